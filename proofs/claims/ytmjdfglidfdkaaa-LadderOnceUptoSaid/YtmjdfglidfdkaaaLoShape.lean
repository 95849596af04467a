/- 'shape' of a ladder that is as every step leaves it: true. -/
import Derived.Test.YtmjdfglidfdkaaaLoPure
import Derived.Test.YtmjdfglidfdkaaaLwWin3
namespace Go.Proofs.Ytmjdfglidfdkaaa
open Go.RowKit
attribute [local go_sem high] one8 st8 cm8 b_and8 b_and8r b_and8l b_or8 b_or8r b_or8l b_xor8 b_xor8r b_xor8l b_andNot8 b_andNot8r b_andNot8l b_add8 b_add8r b_add8l b_sub8 b_sub8r b_sub8l b_mul8 b_mul8r b_mul8l b_eql8 b_eql8r b_eql8l b_neq8 b_neq8r b_neq8l b_lss8 b_lss8r b_lss8l b_leq8 b_leq8r b_leq8l b_gtr8 b_gtr8r b_gtr8l b_geq8 b_geq8r b_geq8l b_quo8r b_rem8r b_shl8r b_shr8r b_shl8l b_shr8l u_xor8 g_eql8 g_neq8 g_eql8' g_neq8' one32 st32 cm32 b_and32 b_and32r b_and32l b_or32 b_or32r b_or32l b_xor32 b_xor32r b_xor32l b_andNot32 b_andNot32r b_andNot32l b_add32 b_add32r b_add32l b_sub32 b_sub32r b_sub32l b_mul32 b_mul32r b_mul32l b_eql32 b_eql32r b_eql32l b_neq32 b_neq32r b_neq32l b_lss32 b_lss32r b_lss32l b_leq32 b_leq32r b_leq32l b_gtr32 b_gtr32r b_gtr32l b_geq32 b_geq32r b_geq32l b_quo32r b_rem32r b_shl32r b_shr32r b_shl32l b_shr32l u_xor32 g_eql32 g_neq32 g_eql32' g_neq32' one64 st64 cm64 b_and64 b_and64r b_and64l b_or64 b_or64r b_or64l b_xor64 b_xor64r b_xor64l b_andNot64 b_andNot64r b_andNot64l b_add64 b_add64r b_add64l b_sub64 b_sub64r b_sub64l b_mul64 b_mul64r b_mul64l b_eql64 b_eql64r b_eql64l b_neq64 b_neq64r b_neq64l b_lss64 b_lss64r b_lss64l b_leq64 b_leq64r b_leq64l b_gtr64 b_gtr64r b_gtr64l b_geq64 b_geq64r b_geq64l b_quo64r b_rem64r b_shl64r b_shr64r b_shl64l b_shr64l u_xor64 g_eql64 g_neq64 g_eql64' g_neq64' c_u8_u8 c_u8_u32 c_u8_u64 c_i_u8 c_u32_u8 c_u32_u32 c_u32_u64 c_i_u32 c_u64_u8 c_u64_u32 c_u64_u64 c_i_u64 c_u8_i c_u32_i
attribute [local go_sem ↓] ce8 ce32 ce64
attribute [local go_sem ↓] sliced_slp loadO25 storeO25 loadO44 storeO44 loadO35 loadO84 storeO84 buildO44 buildO25 buildO35 buildO23 loadO37 storeO37
theorem getLast_take {α : Type} (l : List α) (i : Nat) (x : α) (h : l[i]? = some x) : (l.take (i + 1)).getLast? = some x := by
  rw [List.take_add_one, h]
  simp
theorem lastC_at (c : Cm) (l : List Pd) (i : Nat) (x : Pd) (h : l[i]? = some x) : Chain.lastC c (l.take (i + 1)) = x.commit := by
  rw [Chain.lastC_getLast, getLast_take l i x h]
theorem lastN_getLast (n : Int) : ∀ l : List Pd, Chain.lastN n l = match l.getLast? with | none => n | some p => p.number
  | [] => rfl
  | [p] => rfl
  | p :: q :: r => by
    rw [Chain.lastN, lastN_getLast p.number (q :: r), List.getLast?_cons_cons]
    cases h : (q :: r).getLast? with
    | none => simp at h
    | some x => rfl
theorem lastN_at (n : Int) (l : List Pd) (i : Nat) (x : Pd) (h : l[i]? = some x) : Chain.lastN n (l.take (i + 1)) = x.number := by
  rw [lastN_getLast, getLast_take l i x h]
theorem prev_at (L : Lad) (i : Nat) (hi : i < L.pending.length) : Chain.lastC L.confirmed (L.pending.take i) = L.prev i := by
  cases i with
  | zero => rfl
  | succ k =>
    have h : L.pending[k]? = some L.pending[k] := List.getElem?_eq_getElem (by omega)
    rw [lastC_at _ _ k _ h]
    show _ = (match L.pending[k]? with | none => L.confirmed | some x => x.commit)
    simp only [h]
/-- A pending one in a box. -/
structure PBox (w : World) (b : Nat) (x : Pd) : Prop where
  n : w.cell? ⟨b, 0, none⟩ = some (.int .i64 x.number)
  c : w.cell? ⟨b, 1, none⟩ = some (.int .i64 x.commit.count)
  l : w.cell? ⟨b, 66, none⟩ = some (.int .i64 x.commit.leaves)
  p : w.cell? ⟨b, 87, none⟩ = some (.int .i64 x.posted)
  d : w.cell? ⟨b, 88, none⟩ = some (.int .i64 x.deadline)
  u : w.cell? ⟨b, 89, none⟩ = some (.int .i64 x.duels)
  a : (LoadO 44 (.pointer (some ⟨b, 0, none⟩))).run Try.prog w = .ok (pv x) w
  m : (LoadO 25 (.pointer (some ⟨b, 1, none⟩))).run Try.prog w = .ok (cv x.commit) w
theorem box_pd {w : World} {b : Nat} {x : Pd} {T : TypeId} {fr : Nat × Nat} (h : w.heap[b]? = some (.cells x.cells.toArray T fr)) : PBox w b x where
  n := by rw [cell_blk h, List.getElem?_toArray]; exact x.c0
  c := by rw [cell_blk h, List.getElem?_toArray]; exact x.cc 0 _ x.commit.c0
  l := by rw [cell_blk h, List.getElem?_toArray]; exact x.cc 65 _ x.commit.c65
  p := by rw [cell_blk h, List.getElem?_toArray]; exact x.c87
  d := by rw [cell_blk h, List.getElem?_toArray]; exact x.c88
  u := by rw [cell_blk h, List.getElem?_toArray]; exact x.c89
  a := loadPd (range_blk h 0 _ (fun j v hv => by simpa using hv))
  m := by
    have := pd_commit (range_blk h 0 x.cells (fun j v hv => by simpa using hv))
    exact loadCm this
set_option maxRecDepth 100000 in
set_option maxHeartbeats 2000000 in
theorem shape_any (B g : Nat) (v : Value) (L : Lad) (z : Int) (n : Nat) (w : World) (h : IsL w B g v L) (hk : L.Ok n) (hf : Fine L z) :
    Calls Try.prog 25 #[.pointer (some ⟨g, 0, none⟩), .int .i64 z] w fun e w' => e = .returned (.bool true) ∧ Mod [] w w' := by
  have H := Lib.hid h
  have HK := Lib.hid hk
  have HF := Lib.hid hf
  have hpl := hk.pl
  have HZ25 := Lib.hid (show Try.zeroCells25.size = 66 by kernel_rfl)
  have HZ44 := Lib.hid (show Try.zeroCells44.size = 90 by kernel_rfl)
  clear h hk hf
  go_enter Try.func25, Try.ntmps25
  go_wp2_with fail
  refine (pending_any B g v L w H.out HK.out.len).mono ?_
  rintro e w1 ⟨r, rfl, hr1, m1⟩
  have H1 := Lib.hid (H.out.mod0 m1)
  go_wp2_with fail
  refine (confirmed_any B g v L w1 H1.out).mono ?_
  rintro e w2 ⟨rfl, m2⟩
  have hS2 := storeNewCm w2 L.confirmed _ HZ25.out
  have m3 := m2.alloc (.cells L.confirmed.cells.toArray 25)
  have HC2 := Lib.hid (hp_new w2 (.cells L.confirmed.cells.toArray 25) _ rfl)
  have M3 := m1.trans0 m3
  have S2 : w.heap.size ≤ w2.heap.size := (m1.trans0 m2).size
  obtain ⟨p, cap, rfl, hq, ho, _⟩ := (hr1.mod0 m2).rd
  have HO := Lib.hid (show ∀ x, p = some x → x.block < w2.heap.size from fun x hx => (hr1.mod0 m2).lt _ (ho x hx).2)
  have HQ := Lib.hid (hq.mod0 ((Mod.refl [] w2).alloc (.cells L.confirmed.cells.toArray 25)))
  have d32 : decide (32 < (L.pending.length : Int)) = false := by simp; omega
  clear hr1 m1 m2 m3 H1 hq ho
  go_wp2_with fail
  obtain ⟨b6, hb6⟩ : ∃ b, b = w2.heap.size := ⟨_, rfl⟩
  obtain ⟨W0, hW0⟩ : ∃ W, W = w2.alloc (.cells L.confirmed.cells.toArray 25) := ⟨_, rfl⟩
  rw [← hW0] at HC2 M3 HQ ⊢
  rw [← hb6] at HC2 S2 HO ⊢
  clear hS2 hb6 hW0 d32
  go_loopw [7, 8] (fun nv iv wr => ∃ i : Nat, i ≤ L.pending.length ∧ nv = .int .i64 (Chain.lastN 0 (L.pending.take i)) ∧ iv = .int .i64 i ∧ wr.heap[b6]? = some (.cells (Chain.lastC L.confirmed (L.pending.take i)).cells.toArray 25 (0, 0)) ∧ Mod [b6] W0 wr) (fun _ iv _ => L.pending.length - (intOf iv).toNat)
  case atStart => exact ⟨0, by omega, rfl, rfl, HC2.out, Mod.refl _ _⟩
  case round =>
    obtain ⟨i, hi, rfl, rfl, hb, hm⟩ := hrel
    have HB := Lib.hid hb
    have MW := M3.trans hm (fun x hx => by simp at hx; subst hx; exact .inr S2)
    clear hb
    by_cases hlt : i < L.pending.length
    · obtain ⟨x, hx⟩ : ∃ x, L.pending[i]? = some x := ⟨L.pending[i], List.getElem?_eq_getElem hlt⟩
      obtain ⟨b', o', rfl, hrg⟩ := HQ.out.elem Pd.len i x hx
      have hne : b' < b6 := HO.out _ rfl
      have hL := loadPd (range_mod hm hrg (by simp; omega))
      have HX := Lib.hid hx
      have hch := HF.out.chain.at_ i
      rw [List.drop_eq_getElem_cons hlt, show L.pending[i] = x from Option.some.inj ((List.getElem?_eq_getElem hlt).symm.trans hx), prev_at L i hlt] at hch
      have HP := Lib.hid (prev_at L i hlt)
      have hlk := hch.1
      have HFI := Lib.hid (HF.out.chain.find hx)
      have hS := storeNewPd wr x _ HZ44.out
      clear hrg hx hch
      have hx9 := hp_new wr (.cells x.cells.toArray 44) _ rfl
      have hn1 := (box_pd hx9).n
      have H3 := Lib.hid ((H.out.mod0 MW).mod0 ((Mod.refl [] wr).alloc (.cells x.cells.toArray 44)))
      have HB3 := Lib.hid (hp_old (o := .cells x.cells.toArray 44) HB.out)
      have HX3 := Lib.hid hx9
      have M4 := hm.alloc (.cells x.cells.toArray 44)
      clear hx9
      go_wp2_with fail
      refine (find_yes B g v L x.number _ H3.out HK.out.len i x HFI.out HX.out).mono ?_
      rintro e w5 ⟨rfl, m5⟩
      have hS5 := storeNewPd w5 x _ HZ44.out
      have m6 := m5.alloc (.cells x.cells.toArray 44)
      have HY6 := Lib.hid (hp_new w5 (.cells x.cells.toArray 44) _ rfl)
      have HX6 := Lib.hid (m6.get0 HX3.out)
      have hn6 := (box_pd HX6.out).n
      have H6 := Lib.hid (H3.out.mod0 m6)
      have HB6 := Lib.hid (m6.get0 HB3.out)
      have M6 := M4.trans0 m6
      clear hS hL hn1 m5 m6 HX3 H3 HB3 M4
      go_wp2_with fail
      refine (before_yes B g v L x.number _ H6.out HK.out.len i HFI.out hlt).mono ?_
      rintro e w7 ⟨rfl, m7⟩
      have hS7 := storeNewCm w7 (L.prev i) _ HZ25.out
      have m8 := m7.alloc (.cells (L.prev i).cells.toArray 25)
      have HZ8 := Lib.hid (hp_new w7 (.cells (L.prev i).cells.toArray 25) _ rfl)
      have HX8 := Lib.hid (m8.get0 HX6.out)
      have HY8 := Lib.hid (m8.get0 HY6.out)
      have HB8 := Lib.hid (m8.get0 HB6.out)
      have M8 := M6.trans0 m8
      have rb : ∀ {w' : World} {b : Nat} {cs : List Value} {T : TypeId}, w'.heap[b]? = some (.cells cs.toArray T (0, 0)) → w'.rangeAt b 0 cs := fun h => range_blk h 0 _ (fun j v hv => by simpa using hv)
      have q1 := (box_pd HX8.out).a
      have q2 := (box_pd HY8.out).a
      have q3 := loadCm (rb HZ8.out)
      have q4 := loadCm (rb (by have := HB8.out; rw [HP.out] at this; exact this))
      have e1 := fun w => neqPd w x
      have e2 := fun w => neqCm w (L.prev i)
      have g1 := guardPd
      have g2 := guardCm
      have k0 := (box_pd HX8.out).n
      have k1 := (box_pd HX8.out).c
      have k2 := (box_pd HX8.out).l
      have k3 := (box_pd HX8.out).p
      have k4 := (box_pd HX8.out).d
      have k5 := (box_pd HX8.out).u
      have k6 := (box_pd HX8.out).m
      have hB8 := HB8.out
      rw [HP.out] at hB8
      have j0 : (w7.alloc (.cells (L.prev i).cells.toArray 25)).cell? ⟨b6, 0, none⟩ = some (.int .i64 (L.prev i).count) := by rw [cell_blk hB8, List.getElem?_toArray]; exact (L.prev i).c0
      have j1 : (w7.alloc (.cells (L.prev i).cells.toArray 25)).cell? ⟨b6, 65, none⟩ = some (.int .i64 (L.prev i).leaves) := by rw [cell_blk hB8, List.getElem?_toArray]; exact (L.prev i).c65
      clear hB8 hn6 rb m7 m8 hS5 H6 HX6 HY6 HB6
      have n1 : decide (x.number ≤ Chain.lastN 0 (L.pending.take i)) = false := by have := hlk.num; simp; omega
      have n2 : decide (x.commit.count ≤ (L.prev i).count) = false := by have := hlk.lo; simp; omega
      have n3 : decide (1024 < x.commit.count - (L.prev i).count) = false := by have := hlk.hi; simp; omega
      have n4 : decide (x.commit.leaves < (L.prev i).leaves) = false := by have := hlk.lv; simp; omega
      have n5 : decide (x.duels < 0) = false := by have := hlk.du; simp; omega
      have n6 : x.deadline - x.posted = z := by have := hlk.dl; omega
      have n7 : decide (x.posted < 0) = false := by have := hlk.p0; simp; omega
      have n8 : decide (4611686018427387904 < x.deadline) = false := by have := hlk.d1; simp; omega
      have c1 := Lad.cnt_bd (HK.out.p x (List.mem_of_getElem? HX.out)).1
      have hlk0 := hlk.lo
      have hlk1 := hlk.hi
      have hlk2 := hlk.p0
      have hlk3 := hlk.d1
      have hlk4 := hlk.dl
      have hw0 := HK.out.w0
      have hwz := HF.out.win
      have hS9 := storeO_row (P := Try.prog) (ty := 25) (cells := x.commit.cells.toArray) HB8.out (by simp [Cm.len]) (by simp [x.commit.len, infoCm']) (by simpa using x.commit.one)
      change (StoreO _ _ (cv x.commit)).run _ _ = _ at hS9
      have HB9 := Lib.hid (hp_setRow (cs := x.commit.cells.toArray) HB8.out)
      have M9 := M8.setRow (g := b6) (.inl (by simp)) x.commit.cells.toArray
      go_wp2_with fail
      go_roundw
      case rel => exact ⟨i + 1, by omega, by rw [lastN_at 0 _ i x HX.out], by go_num, by rw [lastC_at _ _ i x HX.out]; exact HB9.out, M9⟩
      case measure => simp [intOf]; omega
    · have hd : decide ((i : Int) < (L.pending.length : Int)) = false := by simp; omega
      obtain rfl : i = L.pending.length := by omega
      have hT := Lib.hid (top_any B g v L wr (H.out.mod0 MW) HK.out.len)
      have hlast : Chain.lastC L.confirmed (L.pending.take L.pending.length) = L.top := by rw [List.take_length, Chain.lastC_getLast]; rfl
      rw [hlast] at HB
      clear hlast
      go_wp2_with fail
      refine hT.out.mono ?_
      rintro e w5 ⟨rfl, m5⟩
      have hS5 := storeNewCm w5 L.top _ HZ25.out
      have m6 := m5.alloc (.cells L.top.cells.toArray 25)
      have q1 := loadCm (range_blk (hp_new w5 (.cells L.top.cells.toArray 25) _ rfl) 0 _ (fun j v hv => by simpa using hv))
      have q2 := loadCm (range_blk (m6.get0 HB.out) 0 _ (fun j v hv => by simpa using hv))
      have e1 := fun w => eqCm w L.top
      have g2 := guardCm
      have MZ := MW.trans0 m6
      clear m5 m6 hT
      go_wp2_with fail
      go_ret
      exact ⟨rfl, MZ⟩
end Go.Proofs.Ytmjdfglidfdkaaa
