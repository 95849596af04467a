/- Byte, Flag, Bytes, Digest, Address of a writer. Condition: at most 2^40 bytes. -/
import Derived.Test.YtmdgefiojapogaaDoorWrNum
namespace Go.Proofs.YtmdgefiojapogaaDoor
open Go.RowKit
attribute [local go_sem high] one8 st8 cm8 b_and8 b_and8r b_and8l b_or8 b_or8r b_or8l b_xor8 b_xor8r b_xor8l b_andNot8 b_andNot8r b_andNot8l b_add8 b_add8r b_add8l b_sub8 b_sub8r b_sub8l b_mul8 b_mul8r b_mul8l b_eql8 b_eql8r b_eql8l b_neq8 b_neq8r b_neq8l b_lss8 b_lss8r b_lss8l b_leq8 b_leq8r b_leq8l b_gtr8 b_gtr8r b_gtr8l b_geq8 b_geq8r b_geq8l b_quo8r b_rem8r b_shl8r b_shr8r b_shl8l b_shr8l u_xor8 g_eql8 g_neq8 g_eql8' g_neq8' one32 st32 cm32 b_and32 b_and32r b_and32l b_or32 b_or32r b_or32l b_xor32 b_xor32r b_xor32l b_andNot32 b_andNot32r b_andNot32l b_add32 b_add32r b_add32l b_sub32 b_sub32r b_sub32l b_mul32 b_mul32r b_mul32l b_eql32 b_eql32r b_eql32l b_neq32 b_neq32r b_neq32l b_lss32 b_lss32r b_lss32l b_leq32 b_leq32r b_leq32l b_gtr32 b_gtr32r b_gtr32l b_geq32 b_geq32r b_geq32l b_quo32r b_rem32r b_shl32r b_shr32r b_shl32l b_shr32l u_xor32 g_eql32 g_neq32 g_eql32' g_neq32' one64 st64 cm64 b_and64 b_and64r b_and64l b_or64 b_or64r b_or64l b_xor64 b_xor64r b_xor64l b_andNot64 b_andNot64r b_andNot64l b_add64 b_add64r b_add64l b_sub64 b_sub64r b_sub64l b_mul64 b_mul64r b_mul64l b_eql64 b_eql64r b_eql64l b_neq64 b_neq64r b_neq64l b_lss64 b_lss64r b_lss64l b_leq64 b_leq64r b_leq64l b_gtr64 b_gtr64r b_gtr64l b_geq64 b_geq64r b_geq64l b_quo64r b_rem64r b_shl64r b_shr64r b_shl64l b_shr64l u_xor64 g_eql64 g_neq64 g_eql64' g_neq64' c_u8_u8 c_u8_u32 c_u8_u64 c_i_u8 c_u32_u8 c_u32_u32 c_u32_u64 c_i_u32 c_u64_u8 c_u64_u32 c_u64_u64 c_i_u64 c_u8_i c_u32_i
attribute [local go_sem ↓] ce8 ce32 ce64
attribute [local go_sem ↓] sliced_slp
/-- lay of one list that lies in a list of its own. -/
theorem lay_one (B g : Nat) (v : Value) (W : Wr) (w : World) (h : IsW w B g v W) (hk : W.b.length ≤ 4194304) (b : Nat) (y : SlR) {fr : Nat × Nat} (hb : w.heap[b]? = some (.cells #[y.v] 27 fr)) (hy : Rd V8 w y.p y.cap y.d) (hbo : b ∉ footB g v) (hyo : y.d ≠ [] → Off y.p (footB g v)) (hl : y.d.length ≤ 1099511627776) :
    Calls Tryd.prog 69 #[.pointer (some ⟨g, 0, none⟩), .slice (some ⟨b, 0, none⟩) 1 1] w (WrPost B g v (W.lay y.d) (.tuple #[]) w) := by
  have hL := lay_any B g v W w h hk (some ⟨b, 0, none⟩) 1 [y] (Rd.of_blk hb (fun j u hu => by simpa using hu) (by simp)) (fun x hx => by simp only [List.mem_singleton] at hx; subst hx; exact hy)
    (fun _ x hx hf => by cases hx; exact hbo hf) (fun x hx => by simp only [List.mem_singleton] at hx; subst hx; exact hyo) (by simp) (by simpa [total] using hl)
  have e : joined [y] = y.d := by simp [joined]
  rw [e] at hL
  exact hL
theorem WrPost.from {B g : Nat} {v : Value} {W : Wr} {r : Value} {a w w' : World} {e : Ending} (hm : Mod [] a w) (h : WrPost B g v W r w e w') : WrPost B g v W r a e w' := by
  obtain ⟨v', he, hi, h1, h2⟩ := h
  exact ⟨v', he, hi, (hm.mono (by simp)).trans h1 (fun x hx => .inl hx), fun x hx => (h2 x hx).imp id (fun h => Nat.le_trans hm.size h)⟩
theorem WrPost.unit {B g : Nat} {v : Value} {W : Wr} {w w' : World} {e : Ending} (h : WrPost B g v W (.tuple #[]) w e w') : e = .returned (.tuple #[]) := h.choose_spec.1
theorem byteW_any (B g : Nat) (v : Value) (W : Wr) (w : World) (h : IsW w B g v W) (hk : W.b.length ≤ 4194304) (x : UInt8) :
    Calls Tryd.prog 53 #[.pointer (some ⟨g, 0, none⟩), V8 x] w (WrPost B g v (W.lay [x]) (.tuple #[]) w) := by
  have hlt := h.foot_lt
  have hm : Mod [] w ((w.alloc (.cells #[V8 x] 5)).alloc (.cells #[.slice (some ⟨w.heap.size, 0, none⟩) 1 1] 27)) := ((Mod.refl [] w).alloc _).alloc _
  have hL := lay_one B g v W _ (h.mod0 hm) hk (w.heap.size + 1) ⟨some ⟨w.heap.size, 0, none⟩, 1, [x]⟩ (hp_new _ _ _ (by simp)) (Rd.of_blk (hp_old (hp_new w _ _ rfl)) (fun j u hu => by simpa using hu) (by simp))
    (fun hf => by have := hlt _ hf; omega) (fun _ y hy hf => by cases hy; have := hlt _ hf; simp only at this; omega) (by simp)
  have HL := Lib.hid hL
  have HM := Lib.hid hm
  clear h hL hm
  go_enter Tryd.func53, Tryd.ntmps53
  go_wp2_with fail
  refine HL.out.mono ?_
  intro e w2 hp
  have hp2 := WrPost.from HM.out hp
  have he := hp.unit
  subst he
  have HP := Lib.hid hp2
  clear hp hp2
  go_wp2_with fail
  go_end0
  exact HP.out
theorem bytesW_any (B g : Nat) (v : Value) (W : Wr) (w : World) (h : IsW w B g v W) (hk : W.b.length ≤ 4194304) (p : Option Addr) (cap : Nat) (l : List UInt8) (hr : Rd V8 w p cap l) (hl : l.length ≤ 549755813888) (ho : l ≠ [] → Off p (footB g v)) :
    Calls Tryd.prog 56 #[.pointer (some ⟨g, 0, none⟩), .slice p l.length cap] w (WrPost B g v (W.lay (form l.length ++ l)) (.tuple #[]) w) := by
  have hlt := h.foot_lt
  have HF := Lib.hid (form_any l.length w (by omega))
  have H := Lib.hid h
  have HR := Lib.hid hr
  have HOF := Lib.hid ho
  clear h hr ho
  go_enter Tryd.func56, Tryd.ntmps56
  go_wp2_with fail
  refine HF.out.mono ?_
  rintro e w1 ⟨r, rfl, ho, m1⟩
  obtain ⟨q, c, hrv, hrd, hb⟩ := ho.rd
  subst hrv
  have hs1 := m1.size
  have hm : Mod [] w (w1.alloc (.cells #[.slice q (form l.length).length c, .slice p l.length cap] 27)) := m1.alloc _
  have hm1 : Mod [] w1 (w1.alloc (.cells #[.slice q (form l.length).length c, .slice p l.length cap] 27)) := (Mod.refl [] w1).alloc _
  have hL := lay_any B g v W _ (H.out.mod0 hm) hk (some ⟨w1.heap.size, 0, none⟩) 2 [⟨q, c, form l.length⟩, ⟨p, cap, l⟩] (Rd.of_blk (hp_new w1 _ _ rfl) (fun j u hu => by simpa [SlR.v] using hu) (by simp))
    (fun x hx => by
      simp only [List.mem_cons, List.not_mem_nil, or_false] at hx
      rcases hx with rfl | rfl
      · exact hrd.mod0 hm1
      · exact HR.out.mod0 hm)
    (fun _ x hx hf => by cases hx; have := hlt _ hf; simp only at this; omega)
    (fun x hx hne y hy hf => by
      simp only [List.mem_cons, List.not_mem_nil, or_false] at hx
      rcases hx with rfl | rfl
      · have h1 := hb y hy; have := hlt _ hf; omega
      · exact HOF.out hne y hy hf)
    (by simp) (by have := form_length l.length; simp [total]; omega)
  have e : joined [⟨q, c, form l.length⟩, ⟨p, cap, l⟩] = form l.length ++ l := by simp [joined]
  rw [e] at hL
  have HL := Lib.hid hL
  have HM := Lib.hid hm
  clear hL hm hm1 ho hrd hb m1 e
  go_wp2_with fail
  refine HL.out.mono ?_
  intro e w2 hp
  have hp2 := WrPost.from HM.out hp
  have he := hp.unit
  subst he
  have HP := Lib.hid hp2
  clear hp hp2
  go_wp2_with fail
  go_end0
  exact HP.out
theorem addressW_any (B g : Nat) (v : Value) (W : Wr) (w : World) (h : IsW w B g v W) (hk : W.b.length ≤ 4194304) (d : List UInt8) (hd : d.length = 20) :
    Calls Tryd.prog 54 #[.pointer (some ⟨g, 0, none⟩), .agg (d.map V8).toArray] w (WrPost B g v (W.lay d) (.tuple #[]) w) := by
  have hlt := h.foot_lt
  have hm : Mod [] w ((w.alloc (.cells (d.map V8).toArray 30)).alloc (.cells #[.slice (some ⟨w.heap.size, 0, none⟩) 20 20] 27)) := ((Mod.refl [] w).alloc _).alloc _
  have hv : SlR.v ⟨some ⟨w.heap.size, 0, none⟩, 20, d⟩ = .slice (some ⟨w.heap.size, 0, none⟩) 20 20 := by simp [SlR.v, hd]
  have hL := lay_one B g v W _ (h.mod0 hm) hk (w.heap.size + 1) ⟨some ⟨w.heap.size, 0, none⟩, 20, d⟩ (by rw [hv]; exact hp_new _ _ _ (by simp)) (Rd.of_blk (hp_old (hp_new w _ _ rfl)) (fun j u hu => by simpa using hu) (by rw [hd]; exact Nat.le_refl _))
    (fun hf => by have := hlt _ hf; omega) (fun _ y hy hf => by cases hy; have := hlt _ hf; simp only at this; omega) (by rw [hd]; decide)
  have HL := Lib.hid hL
  have HM := Lib.hid hm
  have HD := Lib.hid hd
  obtain ⟨cs, hcs⟩ : ∃ cs, cs = (d.map V8).toArray := ⟨_, rfl⟩
  rw [← hcs] at HL HM ⊢
  clear h hL hm hd hcs
  go_enter Tryd.func54, Tryd.ntmps54
  go_wp2_with fail
  refine HL.out.mono ?_
  intro e w2 hp
  have hp2 := WrPost.from HM.out hp
  have he := hp.unit
  subst he
  have HP := Lib.hid hp2
  clear hp hp2
  go_wp2_with fail
  go_end0
  exact HP.out
/-- A wide number by 32 bytes, the highest first. -/
def be32 (a : List UInt64) : List UInt8 := (List.range 32).map fun i => (a[3 - i / 8]?.getD 0 >>> UInt64.ofNat (56 - 8 * (i % 8))).toUInt8
theorem be32_length (a : List UInt64) : (be32 a).length = 32 := by simp [be32]
theorem be32_at (a : List UInt64) (k : Nat) (hk : k < 32) (x : UInt64) (hx : a[3 - k / 8]? = some x) : ((be32 a).map V8)[k]? = some (V8 (x >>> UInt64.ofNat (56 - 8 * (k % 8))).toUInt8) := by
  unfold be32
  rw [List.map_map, List.getElem?_map, List.getElem?_range hk]
  simp only [Option.map_some, Function.comp, hx, Option.getD_some]
set_option maxRecDepth 100000 in
theorem wideW_any (B g : Nat) (v : Value) (W : Wr) (w : World) (h : IsW w B g v W) (hk : W.b.length ≤ 4194304) (a : List UInt64) (ha : a.length = 4) :
    Calls Tryd.prog 57 #[.pointer (some ⟨g, 0, none⟩), .agg (a.map V64).toArray] w (WrPost B g v (W.lay (short (be32 a))) (.tuple #[]) w) := by
  have hlt := h.foot_lt
  have H := Lib.hid h
  have HS := Lib.hid (fun (w1 : World) (hr : Rd V8 w1 (some ⟨w.heap.size + 1, 0, none⟩) 32 (be32 a)) => short_any (some ⟨w.heap.size + 1, 0, none⟩) 32 (be32 a) w1 hr (by rw [be32_length]; omega))
  rw [be32_length] at HS
  have HA := Lib.hid ha
  obtain ⟨cs, hcs⟩ : ∃ cs, cs = (a.map V64).toArray := ⟨_, rfl⟩
  have HCS := Lib.hid hcs
  rw [← hcs]
  clear h ha hcs
  go_enter Tryd.func57, Tryd.ntmps57
  go_wp2_with fail
  go_loopw [6] (fun iv wr => ∃ k : Nat, k ≤ 32 ∧ iv = .int .i64 k ∧ wr.heap[w.heap.size]? = some (.cells cs 33 (0, 0)) ∧ wr.heap[w.heap.size + 1]? = some (.cells (((be32 a).map V8).take k ++ (List.replicate 32 (V8 0)).drop k).toArray 23 (0, 0)) ∧ Mod [] w wr) (fun iv _ => 32 - (intOf iv).toNat)
  case atStart => exact ⟨0, by omega, rfl, hp_old (hp_new w _ _ rfl), hp_new _ _ _ (by simp), ((Mod.refl [] w).alloc _).alloc _⟩
  case round =>
    obtain ⟨k, hk32, rfl, hb0, hb, hm⟩ := hrel
    have HB0 := Lib.hid hb0
    have HB := Lib.hid hb
    have HM := Lib.hid hm
    by_cases hlt32 : k < 32
    · have hc : wr.cell? ⟨w.heap.size + 1, k, none⟩ = some (V8 0) := by
        have hl : (((be32 a).map V8).take k).length = k := by simp [be32_length]; omega
        rw [cell_blk hb, List.getElem?_toArray, List.getElem?_append_right (by omega), hl, Nat.sub_self, List.getElem?_drop, Nat.add_zero, List.getElem?_replicate, if_pos hlt32]
      have hf : wr.frozen? ⟨w.heap.size + 1, k, none⟩ = false := frozen_blk hb k
      obtain ⟨x, hx⟩ : ∃ x, a[3 - k / 8]? = some x := ⟨a[3 - k / 8]'(by rw [HA.out]; omega), List.getElem?_eq_getElem _⟩
      have hcx : wr.cell? ⟨w.heap.size, 3 - k / 8, none⟩ = some (V64 x) := by
        rw [cell_blk hb0, HCS.out, List.getElem?_toArray, List.getElem?_map, hx]; rfl
      have hv := be32_at a k hlt32 x hx
      have HSC := Lib.hid (hp_sc (j := k) (v := V8 (x >>> UInt64.ofNat (56 - 8 * (k % 8))).toUInt8) hb)
      have HX := Lib.hid (set_mix ((be32 a).map V8) (List.replicate 32 (V8 0)) k _ hv (by simp [be32_length]))
      have q1 : (0 : Int) ≤ 3 - (k : Int) / 8 := by omega
      have q2 : 3 - (k : Int) / 8 < 4 := by omega
      have q3 : (3 - (k : Int) / 8).toNat = 3 - k / 8 := by omega
      have q4 : (0 : Int) ≤ 56 - 8 * ((k : Int) % 8) := by omega
      have q5 : 56 - 8 * ((k : Int) % 8) < 64 := by omega
      have q6 : (56 - 8 * ((k : Int) % 8)).toNat = 56 - 8 * (k % 8) := by omega
      have hsh : ∀ w, (binOp .shr 31 (V64 x) (.int .i64 (56 - 8 * ((k : Int) % 8)))).run Tryd.prog w = .ok (V64 (x >>> UInt64.ofNat (56 - 8 * (k % 8)))) w := by
        intro w
        rw [b_shr64r _ x .i64 _ q4 q5, q6]; rfl
      clear hb hb0 hm hv hx
      go_wp2_with fail
      go_roundw
      case rel =>
        refine ⟨k + 1, by omega, by go_num, hp_sc_ne HB0.out (by omega), ?_, HM.out.setCell (p := ⟨w.heap.size + 1, k, none⟩) (.inr (by simp)) _⟩
        have := HSC.out
        rw [List.setIfInBounds_toArray, HX.out] at this
        exact this
      case measure => simp [intOf]; omega
    · obtain rfl : k = 32 := by omega
      have hr : Rd V8 wr (some ⟨w.heap.size + 1, 0, none⟩) 32 (be32 a) := by
        have e : ((be32 a).map V8).take 32 ++ (List.replicate 32 (V8 0)).drop 32 = (be32 a).map V8 := by
          rw [List.take_of_length_le (by simp [be32_length]), List.drop_of_length_le (by simp), List.append_nil]
        rw [e] at hb
        exact Rd.of_blk hb (fun j v hv => by simpa using hv) (by rw [be32_length]; omega)
      have HSS := Lib.hid (HS.out wr hr)
      clear hb hm hr
      go_wp2_with fail
      refine HSS.out.mono ?_
      rintro e w5 ⟨r, rfl, ho, m5⟩
      obtain ⟨q, c, hrv, hrd, hqb⟩ := ho.rd
      subst hrv
      have hms := HM.out.size
      have hs5 := m5.size
      have hsl := short_length (be32 a)
      rw [be32_length] at hsl
      have hm6 : Mod [] w (w5.alloc (.cells #[.slice q (short (be32 a)).length c] 27)) := (HM.out.trans0 m5).alloc _
      have hL := lay_one B g v W _ (H.out.mod0 hm6) hk w5.heap.size ⟨q, c, short (be32 a)⟩ (hp_new w5 _ _ rfl) (hrd.mod0 ((Mod.refl [] w5).alloc _)) (fun hf => by have := hlt _ hf; omega) (fun _ y hy hf => by have h1 := hqb y hy; have := hlt _ hf; omega) (by show (short (be32 a)).length ≤ _; omega)
      have HL := Lib.hid hL
      have HM6 := Lib.hid hm6
      clear hL hm6 ho hrd hqb m5
      go_wp2_with fail
      refine HL.out.mono ?_
      intro e w7 hp
      have hp2 := WrPost.from HM6.out hp
      have he := hp.unit
      subst he
      have HP := Lib.hid hp2
      clear hp hp2
      go_wp2_with fail
      go_end0
      exact HP.out
end Go.Proofs.YtmdgefiojapogaaDoor
