/- Entries of a box: from a number on, up to another one. No condition beyond the numbers' order. -/
import Derived.Test.YtmdgefiojapogaaDoorLawInRefuses
import Derived.Test.YtmdgefiojapogaaDoorInSame
import Derived.Test.YtmdgefiojapogaaDoorInRawInM
namespace Go.Proofs.YtmdgefiojapogaaDoor
open Go.RowKit
attribute [local go_sem high] one8 st8 cm8 b_and8 b_and8r b_and8l b_or8 b_or8r b_or8l b_xor8 b_xor8r b_xor8l b_andNot8 b_andNot8r b_andNot8l b_add8 b_add8r b_add8l b_sub8 b_sub8r b_sub8l b_mul8 b_mul8r b_mul8l b_eql8 b_eql8r b_eql8l b_neq8 b_neq8r b_neq8l b_lss8 b_lss8r b_lss8l b_leq8 b_leq8r b_leq8l b_gtr8 b_gtr8r b_gtr8l b_geq8 b_geq8r b_geq8l b_quo8r b_rem8r b_shl8r b_shr8r b_shl8l b_shr8l u_xor8 g_eql8 g_neq8 g_eql8' g_neq8' one32 st32 cm32 b_and32 b_and32r b_and32l b_or32 b_or32r b_or32l b_xor32 b_xor32r b_xor32l b_andNot32 b_andNot32r b_andNot32l b_add32 b_add32r b_add32l b_sub32 b_sub32r b_sub32l b_mul32 b_mul32r b_mul32l b_eql32 b_eql32r b_eql32l b_neq32 b_neq32r b_neq32l b_lss32 b_lss32r b_lss32l b_leq32 b_leq32r b_leq32l b_gtr32 b_gtr32r b_gtr32l b_geq32 b_geq32r b_geq32l b_quo32r b_rem32r b_shl32r b_shr32r b_shl32l b_shr32l u_xor32 g_eql32 g_neq32 g_eql32' g_neq32' one64 st64 cm64 b_and64 b_and64r b_and64l b_or64 b_or64r b_or64l b_xor64 b_xor64r b_xor64l b_andNot64 b_andNot64r b_andNot64l b_add64 b_add64r b_add64l b_sub64 b_sub64r b_sub64l b_mul64 b_mul64r b_mul64l b_eql64 b_eql64r b_eql64l b_neq64 b_neq64r b_neq64l b_lss64 b_lss64r b_lss64l b_leq64 b_leq64r b_leq64l b_gtr64 b_gtr64r b_gtr64l b_geq64 b_geq64r b_geq64l b_quo64r b_rem64r b_shl64r b_shr64r b_shl64l b_shr64l u_xor64 g_eql64 g_neq64 g_eql64' g_neq64' c_u8_u8 c_u8_u32 c_u8_u64 c_i_u8 c_u32_u8 c_u32_u32 c_u32_u64 c_i_u32 c_u64_u8 c_u64_u32 c_u64_u64 c_i_u64 c_u8_i c_u32_i
attribute [local go_sem ↓] ce8 ce32 ce64
attribute [local go_sem ↓] sliced_slp loadO26 storeO26 loadOEn storeOEn buildZDg buildZEn buildSlEn
/-- Copies, one's own. -/
structure Own1 (w : World) (B : Nat) (v : Value) (es out : List Ev) : Prop where
  own : OwnEn w B v out
  cp : Copies es out
  body : ∀ x ∈ out, Own w B x.1.body.v x.1.body.d
theorem Own1.mod0 {w w' : World} {B : Nat} {v : Value} {es out : List Ev} (h : Own1 w B v es out) (m : Mod [] w w') : Own1 w' B v es out :=
  ⟨h.own.mod0 m, h.cp, fun x hx => (h.body x hx).mod0 m⟩
theorem Own1.nil (w : World) (B : Nat) : Own1 w B (.slice none 0 0) [] [] := ⟨OwnN.nil _ _ _ _ _, Copies.nil, fun x hx => by simp at hx⟩
set_option maxRecDepth 100000 in
set_option maxHeartbeats 1000000 in
theorem entries_any (B g : Nat) (ve vl : Value) (es : List Ev) (ks : List Bs) (w : World) (h : IsBox w B g ve vl es ks) (f t : Nat) (hft : f ≤ t) (htl : t ≤ es.length) :
    Calls Tryd.prog 26 #[.pointer (some ⟨g, 0, none⟩), .int .i64 f, .int .i64 t] w fun e w' => ∃ v out, e = .returned (.tuple #[v, .int .i64 0]) ∧ Own1 w' w.heap.size v ((es.drop f).take (t - f)) out ∧ Mod [] w w' := by
  obtain ⟨pe, ce, rfl, hre, _⟩ := h.own.rd
  have c0 := h.c0
  have hsm := h.small
  have hle := hre.le
  have HD := Lib.hid (hre.drop evc_len f (by omega))
  have HBD := Lib.hid h.body
  have q0 : decide ((f : Int) < 0) = false := by simp
  have q1 : decide (t < f) = false := by simp; omega
  have q2 : decide (es.length < t) = false := by simp; omega
  have q3 : (0 : Int) ≤ (f : Int) := by omega
  have q4 : (f : Int) ≤ (t : Int) := by omega
  have q5 : (t : Int) ≤ (ce : Int) := by omega
  have q6 : f ≤ 1048576 := by omega
  have q7 : t ≤ 1048576 := by omega
  have HLE := Lib.hid htl
  obtain ⟨l, hl⟩ : ∃ l, l = es.length := ⟨_, rfl⟩
  rw [← hl] at c0 q2 hsm
  clear h hre hl
  go_enter Tryd.func26, Tryd.ntmps26
  go_wp2_with fail
  obtain ⟨P, hP⟩ : ∃ P, P = slp pe f ce 49 := ⟨_, rfl⟩
  rw [← hP] at HD ⊢
  obtain ⟨n, hn⟩ : ∃ n, n = t - f := ⟨_, rfl⟩
  rw [← hn]
  obtain ⟨c, hc⟩ : ∃ c, c = ce - f := ⟨_, rfl⟩
  rw [← hc] at HD ⊢
  have HN := Lib.hid hn
  have hn20 : n ≤ 1048576 := by omega
  clear hP hn hc q0 q1 q2 q3 q4 q5 hle hsm c0
  go_loopw [8, 35] (fun yv iv wr => ∃ (i : Nat) (out : List Ev), i ≤ n ∧ iv = .int .i64 i ∧ Hid (Own1 wr w.heap.size yv ((es.drop f).take i) out ∧ out.length = i) ∧ Mod [] w wr) (fun _ iv _ => n - (intOf iv).toNat)
  case atStart => exact ⟨0, [], by omega, rfl, Lib.hid ⟨Own1.nil _ _, rfl⟩, Mod.refl _ _⟩
  case round =>
    obtain ⟨i, out, hi, rfl, HO, hm⟩ := hrel
    have HM := Lib.hid hm
    clear hm
    by_cases hlt : i < n
    · have hfi : f + i < es.length := by have := HLE.out; have := HN.out; omega
      obtain ⟨x, hx⟩ : ∃ x, (es.drop f)[i]? = some x := ⟨es[f + i]'hfi, by rw [List.getElem?_drop, List.getElem?_eq_getElem]⟩
      have hxm : x ∈ es := List.mem_of_mem_drop (List.mem_of_getElem? hx)
      obtain ⟨b, o, hp, hrg⟩ := HD.out.elem evc_len i x hx
      have hL1 := (enAt x.2 (range_mod HM.out hrg (by simp))).ln
      have hS := storeNewEn wr x.1 x.2
      have hL2 := (enBox x.2 (hp_new wr (.cells x.1.cells.toArray 35) _ rfl)).ln
      have HOW := Lib.hid (fun (V : World) (m : Mod [] w V) => own_any x.1 V x.2 ((own_rd (HBD.out x hxm).1).mod0 m) (HBD.out x hxm).2)
      have HX := Lib.hid hx
      obtain ⟨xs, hxs⟩ : ∃ xs, xs = x.1.cells.toArray := ⟨_, rfl⟩
      rw [← hxs] at hL1 hS hL2 HOW
      have HXS := Lib.hid hxs
      have q0 : (0 : Int) ≤ (i : Int) := by omega
      have q1 : (i : Int) < (n : Int) := by omega
      subst hp
      clear hrg hxs hx hxm hfi
      go_wp2_with fail
      refine (HOW.out _ (HM.out.alloc _)).mono ?_
      rintro e w1 ⟨y, hyd, rfl, ho, m1⟩
      have HM1 := Lib.hid ((HM.out.alloc _).trans0 m1)
      have HW1 := Lib.hid (((Mod.refl [] wr).alloc _).trans0 m1)
      have HOY := Lib.hid (ho.mono (B' := w.heap.size) (Nat.le_trans HM.out.size (by rw [alloc_hs]; exact Nat.le_succ _)))
      have HYD := Lib.hid hyd
      have hBS := run_buildEn w1 (x.1.wb y) (x.2.wb y)
      have hbn := hp_new w1 (.cells (x.1.wb y).cells.toArray 35) _ rfl
      obtain ⟨ys, hys⟩ : ∃ ys, ys = (x.1.wb y).cells.toArray := ⟨_, rfl⟩
      rw [← hys] at hBS ⊢
      have HBN := Lib.hid hbn
      have HYS := Lib.hid hys
      clear m1 ho hyd hbn hys hS hL2
      go_wp2_with (at_builtin; with_reducible refine froz_app _ _ rfl ?_)
      unfold Froz
      have hOC : OwnEn (w1.alloc (.cells ys 35)) w.heap.size u8 out := (HO.out.1.own.mod0 HW1.out).alloc _
      refine wpList_pushE rfl _ _ rfl w.heap.size u8 out hOC rfl w1.heap.size ⟨x.1.wb y, x.2.wb y⟩ rfl (by rw [HYS.out]; exact HBN.out) (by rw [HO.out.2]; omega) (Nat.le_trans HM1.out.size (by rw [alloc_hs]; exact Nat.le_succ _)) ?_
      intro v' w' ho hg
      have mG : Mod u8.ownBlock.toList (w1.alloc (.cells ys 35)) w' := (Mod.refl _ _).of_grown hg (fun z hz => .inl (by rw [hz]; simp))
      have bdy : ∀ (u : Value) (d : Bs), Own w1 w.heap.size u d → Own w' w.heap.size u d := fun u d hu => (hu.alloc (.cells ys 35)).mod mG (fun q hq => by
        rw [Option.mem_toList] at hq
        obtain ⟨C, hC⟩ := hOC.type q hq
        exact ownB_ne (hu.alloc (.cells ys 35)) hC (by decide))
      have HNEW := Lib.hid (show Own1 w' w.heap.size v' ((es.drop f).take (i + 1)) (out ++ [(⟨x.1.wb y, x.2.wb y⟩ : Ev)]) ∧ (out ++ [(⟨x.1.wb y, x.2.wb y⟩ : Ev)]).length = i + 1 from by
        have e : (es.drop f).take (i + 1) = (es.drop f).take i ++ [x] := by rw [List.take_add_one, HX.out]; rfl
        refine ⟨⟨ho, ?_, fun q hq => ?_⟩, by rw [List.length_append, HO.out.2]; rfl⟩
        · rw [e]; exact HO.out.1.cp.snoc x ⟨x.1.wb y, x.2.wb y⟩ y rfl HYD.out
        · rcases List.mem_append.1 hq with hq | hq
          · exact bdy _ _ ((HO.out.1.body q hq).mod0 HW1.out)
          · rw [List.mem_singleton.1 hq]
            show Own w' w.heap.size y.v y.d
            rw [HYD.out]
            exact bdy _ _ HOY.out)
      have HG := Lib.hid ((HM1.out.alloc (.cells ys 35)).of_grown hg (fun z hz => .inr (HO.out.1.own.row z hz)))
      clear ho hg hOC mG bdy
      go_wp2_with fail
      go_roundw
      case rel => exact ⟨i + 1, _, hlt, by go_num, HNEW.out |> Lib.hid, HG.out⟩
      case measure => simp [intOf]; omega
    · have hin : i = n := by omega
      have q9 : ¬ ((i : Int) < (n : Int)) := by omega
      have HEND := Lib.hid (show Own1 wr w.heap.size u8 ((es.drop f).take (t - f)) out from by
        have := HO.out.1
        rw [hin, HN.out] at this; exact this)
      go_wp2_with fail
      go_ret2
      exact ⟨_, rfl, ⟨out, HEND.out⟩, HM.out⟩
end Go.Proofs.YtmdgefiojapogaaDoor
namespace Go.Proofs.YtmdgefiojapogaaDoor
open Go.RowKit
attribute [local go_sem high] one8 st8 cm8 b_and8 b_and8r b_and8l b_or8 b_or8r b_or8l b_xor8 b_xor8r b_xor8l b_andNot8 b_andNot8r b_andNot8l b_add8 b_add8r b_add8l b_sub8 b_sub8r b_sub8l b_mul8 b_mul8r b_mul8l b_eql8 b_eql8r b_eql8l b_neq8 b_neq8r b_neq8l b_lss8 b_lss8r b_lss8l b_leq8 b_leq8r b_leq8l b_gtr8 b_gtr8r b_gtr8l b_geq8 b_geq8r b_geq8l b_quo8r b_rem8r b_shl8r b_shr8r b_shl8l b_shr8l u_xor8 g_eql8 g_neq8 g_eql8' g_neq8' one32 st32 cm32 b_and32 b_and32r b_and32l b_or32 b_or32r b_or32l b_xor32 b_xor32r b_xor32l b_andNot32 b_andNot32r b_andNot32l b_add32 b_add32r b_add32l b_sub32 b_sub32r b_sub32l b_mul32 b_mul32r b_mul32l b_eql32 b_eql32r b_eql32l b_neq32 b_neq32r b_neq32l b_lss32 b_lss32r b_lss32l b_leq32 b_leq32r b_leq32l b_gtr32 b_gtr32r b_gtr32l b_geq32 b_geq32r b_geq32l b_quo32r b_rem32r b_shl32r b_shr32r b_shl32l b_shr32l u_xor32 g_eql32 g_neq32 g_eql32' g_neq32' one64 st64 cm64 b_and64 b_and64r b_and64l b_or64 b_or64r b_or64l b_xor64 b_xor64r b_xor64l b_andNot64 b_andNot64r b_andNot64l b_add64 b_add64r b_add64l b_sub64 b_sub64r b_sub64l b_mul64 b_mul64r b_mul64l b_eql64 b_eql64r b_eql64l b_neq64 b_neq64r b_neq64l b_lss64 b_lss64r b_lss64l b_leq64 b_leq64r b_leq64l b_gtr64 b_gtr64r b_gtr64l b_geq64 b_geq64r b_geq64l b_quo64r b_rem64r b_shl64r b_shr64r b_shl64l b_shr64l u_xor64 g_eql64 g_neq64 g_eql64' g_neq64' c_u8_u8 c_u8_u32 c_u8_u64 c_i_u8 c_u32_u8 c_u32_u32 c_u32_u64 c_i_u32 c_u64_u8 c_u64_u32 c_u64_u64 c_i_u64 c_u8_i c_u32_i
attribute [local go_sem ↓] ce8 ce32 ce64
attribute [local go_sem ↓] sliced_slp loadO26 storeO26 loadOEn storeOEn buildZDg buildZEn buildSlEn
theorem sameE_wb (x : En) (y : SlR) (h : y.d = x.body.d) : sameE (x.wb y) x = true := by
  unfold sameE En.wb
  simp [h]
set_option maxRecDepth 100000 in
theorem alike_true (p q : Option Addr) (c d n m : Nat) (es fs : List Ev) (w : World) (hn : n = es.length) (hm : m = fs.length) (ha : Ents w p c es) (hb : Ents w q d fs) (hl : es.length = fs.length) (hsm : es.length ≤ 1048576)
    (hs : ∀ (i : Nat) (x y : Ev), es[i]? = some x → fs[i]? = some y → sameE x.1 y.1 = true) :
    Calls Tryd.prog 27 #[.slice p n c, .slice q m d] w fun e w' => e = .returned (.bool true) ∧ Mod [] w w' := by
  obtain rfl : m = n := by omega
  have HA := Lib.hid ha
  have HB := Lib.hid hb
  have HN := Lib.hid hn
  have HM' := Lib.hid hm
  have HS := Lib.hid hs
  have h20 : m ≤ 1048576 := by omega
  have hne : ((m : Int) != (m : Int)) = false := by simp
  clear ha hb hn hm hl hsm hs
  go_enter Tryd.func27, Tryd.ntmps27
  go_wp2_with fail
  go_loopw [5] (fun iv wr => ∃ i : Nat, i ≤ m ∧ iv = .int .i64 i ∧ Mod [] w wr) (fun iv _ => m - (intOf iv).toNat)
  case atStart => exact ⟨0, by omega, rfl, Mod.refl _ _⟩
  case round =>
    obtain ⟨i, hi, rfl, hm⟩ := hrel
    have HM := Lib.hid hm
    clear hm
    by_cases hlt : i < m
    · obtain ⟨x, hx⟩ : ∃ x, es[i]? = some x := ⟨es[i]'(by rw [← HN.out]; exact hlt), List.getElem?_eq_getElem _⟩
      obtain ⟨y, hy⟩ : ∃ y, fs[i]? = some y := ⟨fs[i]'(by rw [← HM'.out]; exact hlt), List.getElem?_eq_getElem _⟩
      obtain ⟨b1, o1, hp, hr1⟩ := HA.out.rd.elem evc_len i x hx
      obtain ⟨b2, o2, hq, hr2⟩ := HB.out.rd.elem evc_len i y hy
      have hL1 := (enAt x.2 (range_mod HM.out.drew hr1 (by simp))).ln
      have hL2 := (enAt y.2 (range_mod HM.out.drew hr2 (by simp))).ln
      have hsame := same_any x.1 y.1 wr.drew x.2 y.2 ((HA.out.body x (List.mem_of_getElem? hx)).mod0 HM.out.drew) ((HB.out.body y (List.mem_of_getElem? hy)).mod0 HM.out.drew)
      rw [HS.out i x y hx hy] at hsame
      have HSAME := Lib.hid hsame
      obtain ⟨xs, hxs⟩ : ∃ xs, xs = x.1.cells.toArray := ⟨_, rfl⟩
      obtain ⟨ys, hys⟩ : ∃ ys, ys = y.1.cells.toArray := ⟨_, rfl⟩
      rw [← hxs] at hL1 HSAME
      rw [← hys] at hL2 HSAME
      have q0 : (0 : Int) ≤ (i : Int) := by omega
      have q1 : (i : Int) < (m : Int) := by omega
      subst hp hq
      clear hsame hr1 hr2 hx hy hxs hys
      go_wp2_with fail
      go_region_law (go_simp; go_at_call 16; refine (HSAME.out).mono ?_
                     rintro _ w6 ⟨rfl, m6⟩)
      all_goals
        have HM6 := Lib.hid (HM.out.drew.trans0 m6)
        clear m6 hL1 hL2
        go_wp2_with fail
        go_roundw
        case rel => exact ⟨i + 1, hlt, by go_num, HM6.out⟩
        case measure => simp [intOf]; omega
    · have hin : i = m := by omega
      have q9 : ¬ ((i : Int) < (m : Int)) := by omega
      go_wp2_with fail
      go_ret
      exact ⟨rfl, HM.out⟩
end Go.Proofs.YtmdgefiojapogaaDoor
namespace Go.Proofs.YtmdgefiojapogaaDoor
open Go.RowKit
theorem nextH_wb (hf : Bs → Bs) (k : Bs) (x : En) (y : SlR) (h : y.d = x.body.d) : nextH hf k (x.wb y) = nextH hf k x := by
  unfold nextH
  rw [En.fine_wb x y h, En.bytes_wb x y h]
theorem linkI_copies (hf : Bs → Bs) (k : Bs) {es out : List Ev} (h : Copies es out) : ∀ i : Nat, i ≤ es.length → linkI hf k (out.take i) = linkI hf k (es.take i) := by
  intro i
  induction i with
  | zero => intro _; rfl
  | succ i ih =>
    intro hi
    obtain ⟨x, hx⟩ : ∃ x, es[i]? = some x := ⟨es[i]'(by omega), List.getElem?_eq_getElem _⟩
    obtain ⟨z, y, hz, hz1, hyd⟩ := h.each i x hx
    rw [linkI_succ hf k es i x hx, linkI_succ hf k out i z hz, ih (by omega), hz1, nextH_wb hf _ _ _ hyd]
theorem linkI_part (hf : Bs → Bs) (k : Bs) (es : List Ev) (f t : Nat) (h : f ≤ t) : linkI hf (linkI hf k (es.take f)) ((es.drop f).take (t - f)) = linkI hf k (es.take t) := by
  obtain ⟨m, rfl⟩ : ∃ m, t = f + m := ⟨t - f, by omega⟩
  rw [Nat.add_sub_cancel_left, List.take_add]
  unfold linkI
  rw [List.foldl_append]
/-- The part's entries are a row's. -/
theorem part_get {es : List Ev} {f n i : Nat} {x : Ev} (h : ((es.drop f).take n)[i]? = some x) : es[f + i]? = some x := by
  rw [List.getElem?_take] at h
  split at h
  · rw [List.getElem?_drop] at h; exact h
  · cases h
theorem Copies.part {es es' out : List Ev} (h : Copies es es') (f n : Nat) (h2 : Copies ((es'.drop f).take n) out) : Copies ((es.drop f).take n) out := by
  refine ⟨by rw [h2.len, List.length_take, List.length_drop, List.length_take, List.length_drop, h.len], fun i x hx => ?_⟩
  have hin : i < n := by
    have := (List.getElem?_eq_some_iff.1 hx).1
    rw [List.length_take] at this; omega
  obtain ⟨z, y, hz, hz1, hyd⟩ := h.each (f + i) x (part_get hx)
  obtain ⟨z2, y2, k1, k2, k3⟩ := h2.each i z (by rw [List.getElem?_take, if_pos hin, List.getElem?_drop]; exact hz)
  refine ⟨z2, y2, k1, by rw [k2, hz1]; rfl, ?_⟩
  rw [k3, hz1]
  exact hyd
theorem chkF_part (hf : Bs → Bs) (d : Bs) {es out : List Ev} (f t : Nat) (hft : f ≤ t) (htl : t ≤ es.length) (hfi : ∀ x ∈ es, x.1.fine = true)
    (hso : ∀ (i : Nat) (y z : Ev), es[i]? = some y → es[i + 1]? = some z → y.1.time ≤ z.1.time) (h : Copies ((es.drop f).take (t - f)) out) :
    chkF hf d none (linkI hf (zeros 32) (es.take f)) (out.map Subtype.val) = if linkI hf (zeros 32) (es.take t) = d then 0 else 154 := by
  have hlen : ((es.drop f).take (t - f)).length = t - f := by rw [List.length_take, List.length_drop]; omega
  have hol : out.length = t - f := by rw [h.len, hlen]
  have back : ∀ (i : Nat) (z : Ev), out[i]? = some z → ∃ (x : Ev) (y : SlR), es[f + i]? = some x ∧ z.1 = x.1.wb y ∧ y.d = x.1.body.d := by
    intro i z hz
    have hi := (List.getElem?_eq_some_iff.1 hz).1
    obtain ⟨x, hx⟩ : ∃ x, ((es.drop f).take (t - f))[i]? = some x := ⟨((es.drop f).take (t - f))[i]'(by omega), List.getElem?_eq_getElem _⟩
    obtain ⟨z', y, hz', hz1, hyd⟩ := h.each i x hx
    rw [hz] at hz'
    injection hz' with hz'
    subst hz'
    exact ⟨x, y, part_get hx, hz1, hyd⟩
  have hr := chkF_run hf d (linkI hf (zeros 32) (es.take f)) out out.length (Nat.le_refl _) (fun j z _ hz => by
      obtain ⟨x, y, hx, hz1, hyd⟩ := back j z hz
      rw [hz1, En.fine_wb _ _ hyd]
      exact hfi x (List.mem_of_getElem? hx))
    (fun j z1 z2 _ h1 h2 => by
      obtain ⟨x1, y1, hx1, e1, _⟩ := back j z1 h1
      obtain ⟨x2, y2, hx2, e2, _⟩ := back (j + 1) z2 h2
      rw [e1, e2]
      exact hso (f + j) x1 x2 hx1 hx2) out.length (Nat.le_refl _)
  rw [hr, List.drop_length]
  have hk := linkI_copies hf (linkI hf (zeros 32) (es.take f)) h (t - f) (by omega)
  rw [List.take_of_length_le (l := ((es.drop f).take (t - f))) (by omega), linkI_part hf _ es f t hft] at hk
  rw [hol, hk]
  rfl
end Go.Proofs.YtmdgefiojapogaaDoor
namespace Go.Proofs.YtmdgefiojapogaaDoor
open Go.RowKit
attribute [local go_sem high] one8 st8 cm8 b_and8 b_and8r b_and8l b_or8 b_or8r b_or8l b_xor8 b_xor8r b_xor8l b_andNot8 b_andNot8r b_andNot8l b_add8 b_add8r b_add8l b_sub8 b_sub8r b_sub8l b_mul8 b_mul8r b_mul8l b_eql8 b_eql8r b_eql8l b_neq8 b_neq8r b_neq8l b_lss8 b_lss8r b_lss8l b_leq8 b_leq8r b_leq8l b_gtr8 b_gtr8r b_gtr8l b_geq8 b_geq8r b_geq8l b_quo8r b_rem8r b_shl8r b_shr8r b_shl8l b_shr8l u_xor8 g_eql8 g_neq8 g_eql8' g_neq8' one32 st32 cm32 b_and32 b_and32r b_and32l b_or32 b_or32r b_or32l b_xor32 b_xor32r b_xor32l b_andNot32 b_andNot32r b_andNot32l b_add32 b_add32r b_add32l b_sub32 b_sub32r b_sub32l b_mul32 b_mul32r b_mul32l b_eql32 b_eql32r b_eql32l b_neq32 b_neq32r b_neq32l b_lss32 b_lss32r b_lss32l b_leq32 b_leq32r b_leq32l b_gtr32 b_gtr32r b_gtr32l b_geq32 b_geq32r b_geq32l b_quo32r b_rem32r b_shl32r b_shr32r b_shl32l b_shr32l u_xor32 g_eql32 g_neq32 g_eql32' g_neq32' one64 st64 cm64 b_and64 b_and64r b_and64l b_or64 b_or64r b_or64l b_xor64 b_xor64r b_xor64l b_andNot64 b_andNot64r b_andNot64l b_add64 b_add64r b_add64l b_sub64 b_sub64r b_sub64l b_mul64 b_mul64r b_mul64l b_eql64 b_eql64r b_eql64l b_neq64 b_neq64r b_neq64l b_lss64 b_lss64r b_lss64l b_leq64 b_leq64r b_leq64l b_gtr64 b_gtr64r b_gtr64l b_geq64 b_geq64r b_geq64l b_quo64r b_rem64r b_shl64r b_shr64r b_shl64l b_shr64l u_xor64 g_eql64 g_neq64 g_eql64' g_neq64' c_u8_u8 c_u8_u32 c_u8_u64 c_i_u8 c_u32_u8 c_u32_u32 c_u32_u64 c_i_u32 c_u64_u8 c_u64_u32 c_u64_u64 c_i_u64 c_u8_i c_u32_i
attribute [local go_sem ↓] ce8 ce32 ce64
attribute [local go_sem ↓] sliced_slp loadO26 storeO26 loadOEn storeOEn buildZDg buildZEn buildSlEn
set_option maxRecDepth 100000 in
set_option maxHeartbeats 4000000 in
theorem shows_law {hf : Bs → Bs} (p : Option Addr) (c n : Nat) (rs : List Rv) (fa ta oa : Int) (w : World) (hn : n = rs.length) (h : Raws w p c rs) (hfr : -9223372036854775808 ≤ fa ∧ fa ≤ 9223372036854775807) (hto : -9223372036854775808 ≤ ta ∧ ta ≤ 9223372036854775807) (hot : -9223372036854775808 ≤ oa ∧ oa ≤ 9223372036854775807) (H : Hs hf w) (R : Rf w) :
    Calls Tryd.prog 6 #[.slice p n c, .agg #[.int .i64 fa, .int .i64 ta, .int .i64 oa]] w fun e w' => e = .returned (.bool true) ∧ Mod [] w w' := by
  have M1 := Lib.hid ((Mod.refl [] w).alloc (.cells #[.int .i64 fa, .int .i64 ta, .int .i64 oa] 59))
  have HKN := Lib.hid (known_any _ (H.mod0 M1.out) (R.mod0 M1.out))
  have HRW := Lib.hid (fun (V : World) (m : Mod [] w V) => row_any p c n rs V hn ⟨h.rd.mod0 m, fun r hr => (h.body r hr).mod0 m, h.ints, h.small, h.bl⟩)
  have HBX := Lib.hid (hp_new w (.cells #[.int .i64 fa, .int .i64 ta, .int .i64 oa] 59) _ rfl)
  have HH := Lib.hid H
  have HFR := Lib.hid hfr
  have HTO := Lib.hid hto
  have HOT := Lib.hid hot
  clear hn h H R hfr hto hot
  go_enter Tryd.func6, Tryd.ntmps6
  go_wp2_with fail
  refine HKN.out.mono ?_
  rintro e w2 ⟨rfl, m2⟩
  have M2 := Lib.hid m2
  clear m2
  go_wp2_with fail
  refine (HRW.out w2 (M1.out.trans0 M2.out)).mono ?_
  rintro e w3 ⟨v, t, es, rfl, hro, m3⟩
  obtain ⟨pv, cv, rfl, hents⟩ := Ents.of_row hro
  have HRO := Lib.hid hro
  have M3 := Lib.hid m3
  have HEN := Lib.hid hents
  obtain ⟨l, hll⟩ : ∃ l, l = es.length := ⟨_, rfl⟩
  have HBO := Lib.hid (boxed_any (hf := hf) pv cv l es w3 hll hents (by have := hro.small; omega) hro.fine (fun y hy => (hro.body y hy).2) hro.sorted (HH.out.mod0 ((M1.out.trans0 M2.out).trans0 m3)))
  have hl100 : l ≤ 100 := by rw [hll]; exact hro.small
  have hcv : l ≤ cv := by rw [hll]; exact hents.rd.le
  rw [← hll]
  have HLL := Lib.hid hll
  clear hro m3 hents hll
  go_wp2_with fail
  refine HBO.out.mono ?_
  rintro e w4 ⟨g, rfl, hbo, m4⟩
  obtain ⟨ve, vl, es', ks, hbox, hcp, hlk⟩ := hbo
  have HBOX := Lib.hid hbox
  have HCP := Lib.hid hcp
  have HLK := Lib.hid hlk
  have M4 := Lib.hid m4
  have hle : es'.length = l := by rw [hcp.len, HLL.out]
  have HLE := Lib.hid hle
  have HLN := Lib.hid (boxLen_any _ g ve vl es' ks w4 hbox)
  rw [hle] at HLN
  have MX4 := Lib.hid ((M2.out.trans0 M3.out).trans0 m4)
  have hx4 := MX4.out.get0 HBX.out
  have t1 : w4.cell? ⟨w.heap.size, 1, none⟩ = some (.int .i64 ta) := by rw [cell_blk hx4]; rfl
  have t0 : w4.cell? ⟨w.heap.size, 0, none⟩ = some (.int .i64 fa) := by rw [cell_blk hx4]; rfl
  have t2 : w4.cell? ⟨w.heap.size, 2, none⟩ = some (.int .i64 oa) := by rw [cell_blk hx4]; rfl
  have hll : ((l : Int) != (l : Int)) = false := by simp
  have HPT := Lib.hid (pick_any ta ((l : Int) + 1) w4 HTO.out.1 HTO.out.2 (by omega) (by omega))
  clear hbox hcp hlk m4 hle hx4
  go_wp2_with fail
  refine HLN.out.mono ?_
  rintro e w' ⟨rfl, rfl⟩
  go_wp2_with fail
  refine HPT.out.mono ?_
  rintro e w' ⟨tt, htt, rfl, rfl⟩
  have htl : tt ≤ l := by omega
  have HPF := Lib.hid (pick_any fa ((tt : Int) + 1) w' HFR.out.1 HFR.out.2 (by omega) (by omega))
  clear htt
  go_wp2_with fail
  refine HPF.out.mono ?_
  rintro e w' ⟨ff, hff, rfl, rfl⟩
  have hft : ff ≤ tt := by omega
  have HPO := Lib.hid (pick_any oa ((l : Int) + 1) w' HOT.out.1 HOT.out.2 (by omega) (by omega))
  clear hff
  go_wp2_with fail
  refine HPO.out.mono ?_
  rintro e w' ⟨oo, hoo, rfl, rfl⟩
  have hol : oo ≤ l := by omega
  clear hoo t0 t1 t2
  have HP := Lib.hid (show lk ks ff = linkI hf (zeros 32) (es.take ff) from HLK.out ff (by rw [← HLL.out]; omega))
  have HQ := Lib.hid (show lk ks tt = linkI hf (zeros 32) (es.take tt) from HLK.out tt (by rw [← HLL.out]; omega))
  have HP32 := Lib.hid (show (lk ks ff).length = 32 from lk_len HBOX.out.k32 _)
  have HQ32 := Lib.hid (show (lk ks tt).length = 32 from lk_len HBOX.out.k32 _)
  have HO32 := Lib.hid (show (lk ks oo).length = 32 from lk_len HBOX.out.k32 _)
  have HLA := Lib.hid (fun (V : World) (m : Mod [] w' V) (j : Nat) (hj : j ≤ l) => (show Calls Tryd.prog 20 #[.pointer (some ⟨g, 0, none⟩), .int .i64 j] V fun e w' => e = .returned (.tuple #[dv (lk ks j), .int .i64 0]) ∧ Mod [] V w' from by
    have h := link_any _ g ve vl es' ks V (HBOX.out.mod0 m) j
    rw [HLE.out, show lkE l j = 0 by unfold lkE; rw [if_pos (by omega)]] at h
    exact h))
  obtain ⟨P, hP⟩ : ∃ P, P = lk ks ff := ⟨_, rfl⟩
  obtain ⟨Qd, hQ⟩ : ∃ Qd, Qd = lk ks tt := ⟨_, rfl⟩
  obtain ⟨O, hO⟩ : ∃ O, O = lk ks oo := ⟨_, rfl⟩
  have HLF := Lib.hid (fun (V : World) (m : Mod [] w' V) => HLA.out V m ff (by omega))
  have HLT := Lib.hid (fun (V : World) (m : Mod [] w' V) => HLA.out V m tt (by omega))
  have HLO := Lib.hid (fun (V : World) (m : Mod [] w' V) => HLA.out V m oo (by omega))
  rw [← hP] at HP HP32 HLF
  rw [← hQ] at HQ HQ32 HLT
  rw [← hO] at HO32 HLO
  clear HLA hP hQ hO
  go_wp2_with fail
  refine (HLF.out _ (Mod.refl _ _)).mono ?_
  rintro e w5 ⟨rfl, m5⟩
  have hS5 := storeNewD w5 P HP32.out
  have M5 := Lib.hid (m5.alloc (.cells (P.map V8).toArray 24))
  have HB5 := Lib.hid (hp_new w5 (.cells (P.map V8).toArray 24) _ rfl)
  clear m5
  go_wp2_with fail
  refine (HLT.out _ M5.out).mono ?_
  rintro e w6 ⟨rfl, m6⟩
  have hS6 := storeNewD w6 Qd HQ32.out
  have M6 := Lib.hid (m6.alloc (.cells (Qd.map V8).toArray 24))
  have HB6 := Lib.hid (hp_new w6 (.cells (Qd.map V8).toArray 24) _ rfl)
  clear m6 hS5
  go_wp2_with fail
  refine (HLO.out _ (M5.out.trans0 M6.out)).mono ?_
  rintro e w7 ⟨rfl, m7⟩
  have hS7 := storeNewD w7 O HO32.out
  have M7 := Lib.hid (m7.alloc (.cells (O.map V8).toArray 24))
  have HB7 := Lib.hid (hp_new w7 (.cells (O.map V8).toArray 24) _ rfl)
  have M57 := Lib.hid ((M5.out.trans0 M6.out).trans0 M7.out)
  have HES := Lib.hid (entries_any _ g ve vl es' ks _ (HBOX.out.mod0 M57.out) ff tt hft (by rw [HLE.out]; exact htl))
  clear m7 hS6
  go_wp2_with fail
  refine HES.out.mono ?_
  rintro e w8 ⟨vo, out, rfl, hown, m8⟩
  obtain ⟨po, co, rfl, hro, _⟩ := hown.own.rd
  have M8 := Lib.hid m8
  have M48 := Lib.hid (M57.out.trans0 m8)
  have hpl : ((es.drop ff).take (tt - ff)).length = tt - ff := by rw [List.length_take, List.length_drop, ← HLL.out]; omega
  have hcps := HCP.out.part ff (tt - ff) hown.cp
  have hoe : out.length = tt - ff := by rw [hcps.len, hpl]
  have hpm : ∀ q ∈ (es.drop ff).take (tt - ff), q ∈ es := fun q hq => List.mem_of_mem_drop (List.mem_of_mem_take hq)
  have HENTO := Lib.hid (show Ents w8 po co out from ⟨hro, fun q hq => own_rd (hown.body q hq), by omega⟩)
  have MX3 := Lib.hid (M4.out.trans0 M48.out)
  have HENTP := Lib.hid (show Ents w8 (slp pv ff cv 49) (cv - ff) ((es.drop ff).take (tt - ff)) from
    ⟨((HEN.out.rd.mod0 MX3.out).drop evc_len ff (by rw [← HLL.out]; omega)).take _, fun q hq => (HEN.out.body q (hpm q hq)).mod0 MX3.out, by omega⟩)
  obtain ⟨k, hk⟩ : ∃ k, k = out.length := ⟨_, rfl⟩
  have hkt : tt - ff = k := by omega
  have HAL := Lib.hid (alike_true po (slp pv ff cv 49) co (cv - ff) k k out ((es.drop ff).take (tt - ff)) w8 hk (by omega) HENTO.out HENTP.out (by omega) (by omega) (fun i x y hx hy => by
    obtain ⟨z, yy, hz, hz1, hyd⟩ := hcps.each i y hy
    rw [hx] at hz
    injection hz with hz
    rw [hz, hz1]
    exact sameE_wb _ _ hyd))
  have HCPO := Lib.hid hcps
  have HK := Lib.hid hk
  rw [← hk]
  have f1 : (0 : Int) ≤ (ff : Int) := by omega
  have f2 : (ff : Int) ≤ (tt : Int) := by omega
  have f3 : (tt : Int) ≤ (cv : Int) := by omega
  have f4 : ff ≤ 100 := by omega
  have f5 : tt ≤ 100 := by omega
  clear hown hro hcps m8 hpl hoe hpm hk hS7
  go_wp2_with fail
  refine HAL.out.mono ?_
  rintro e w9 ⟨rfl, m9⟩
  have MF := Lib.hid (M1.out.trans0 (MX4.out.trans0 (M48.out.trans0 m9)))
  have M89 := Lib.hid m9
  have M59 := Lib.hid (show Mod [] (w5.alloc (.cells (P.map V8).toArray 24)) w9 from M6.out.trans0 (M7.out.trans0 (M8.out.trans0 m9)))
  have M69 := Lib.hid (show Mod [] (w6.alloc (.cells (Qd.map V8).toArray 24)) w9 from M7.out.trans0 (M8.out.trans0 m9))
  have M79 := Lib.hid (show Mod [] (w7.alloc (.cells (O.map V8).toArray 24)) w9 from M8.out.trans0 m9)
  have hL5 := loadDv P HP32.out (M59.out.get0 HB5.out)
  have hL6 := loadDv Qd HQ32.out (M69.out.get0 HB6.out)
  have hL7 := loadDv O HO32.out (M79.out.get0 HB7.out)
  have hEQ := fun w => eqD w O Qd HO32.out HQ32.out
  have hEG := eqGuardD
  have hc1 := chkF_part hf Qd ff tt hft (by rw [← HLL.out]; exact htl) HRO.out.fine HRO.out.sorted HCPO.out
  have hc2 := chkF_part hf O ff tt hft (by rw [← HLL.out]; exact htl) HRO.out.fine HRO.out.sorted HCPO.out
  rw [← HP.out, ← HQ.out, if_pos rfl] at hc1
  rw [← HP.out, ← HQ.out] at hc2
  have HC1 := Lib.hid (show Calls Tryd.prog 12 #[dv P, dv Qd, .slice po k co] w9 fun e w' => e = .returned (.int .i64 0) ∧ Mod [] w9 w' from by
    have h := check_in (hf := hf) P Qd HP32.out HQ32.out po co k out w9 HK.out (HENTO.out.mod0 M89.out) (HH.out.mod0 MF.out)
    rw [hc1] at h; exact h)
  have HC2 := Lib.hid (fun (V : World) (m : Mod [] w9 V) => (show Calls Tryd.prog 12 #[dv P, dv O, .slice po k co] V fun e w' => e = .returned (.int .i64 (if Qd = O then 0 else 154)) ∧ Mod [] V w' from by
    have h := check_in (hf := hf) P O HP32.out HO32.out po co k out V HK.out (HENTO.out.mod0 (M89.out.trans0 m)) (HH.out.mod0 (MF.out.trans0 m))
    rw [hc2] at h; exact h))
  clear m9 hc1 hc2
  by_cases hoq : O = Qd
  · have hb : (O == Qd) = true := by simp [hoq]
    simp only [hb] at hEQ
    rw [if_pos hoq.symm] at HC2
    have HOQ := Lib.hid hoq
    clear hoq hb
    go_wp2_with fail
    refine HC1.out.mono ?_
    rintro e w10 ⟨rfl, m10⟩
    have HM10 := Lib.hid m10
    have hL5' := loadDv P HP32.out ((M59.out.trans0 m10).get0 HB5.out)
    have hL7' := loadDv O HO32.out ((M79.out.trans0 m10).get0 HB7.out)
    clear m10
    go_wp2_with fail
    refine (HC2.out _ HM10.out).mono ?_
    rintro e w11 ⟨rfl, m11⟩
    have HM11 := Lib.hid (MF.out.trans0 (HM10.out.trans0 m11))
    clear m11
    go_wp2_with fail
    go_ret
    exact ⟨rfl, HM11.out⟩
  · have hb : (O == Qd) = false := by simp [hoq]
    simp only [hb] at hEQ
    rw [if_neg (fun h => hoq h.symm)] at HC2
    have HOQ := Lib.hid hoq
    clear hoq hb
    go_wp2_with fail
    refine HC1.out.mono ?_
    rintro e w10 ⟨rfl, m10⟩
    have HM10 := Lib.hid m10
    have hL5' := loadDv P HP32.out ((M59.out.trans0 m10).get0 HB5.out)
    have hL7' := loadDv O HO32.out ((M79.out.trans0 m10).get0 HB7.out)
    clear m10
    go_wp2_with fail
    refine (HC2.out _ HM10.out).mono ?_
    rintro e w11 ⟨rfl, m11⟩
    have HM11 := Lib.hid (MF.out.trans0 (HM10.out.trans0 m11))
    clear m11
    go_wp2_with fail
    go_ret
    exact ⟨rfl, HM11.out⟩
end Go.Proofs.YtmdgefiojapogaaDoor
namespace Go.Proofs.YtmdgefiojapogaaDoor
open Go.ChangeShapes Go.WideShapes Go.ChangeAt Go.RowKit
theorem cellsPl : Tryd.prog.cellsOf 59 = 3 := by kernel_rfl
theorem split3 (cs : List Value) (h : cs.length = 3) : cs = (cs.drop 0).take 1 ++ ((cs.drop 1).take 1 ++ (cs.drop 2).take 1) := by
  match cs, h with
  | [a, b, c], _ => rfl
abbrev In64 (n : Int) : Prop := -9223372036854775808 ≤ n ∧ n ≤ 9223372036854775807
set_option maxRecDepth 100000 in
/-- The places that came in as an argument. -/
theorem places_in {H : Type} {enc : TypeId × Value → H} {W : World} {base : Nat} {v : Value} {d : DataW H} {p : List MemPlace} (hv : Value.okWide Tryd.prog W .any base 59 v) (h : DataW.Trod enc Tryd.prog W 0 (fun _ => true) true 59 v d p) :
    ∃ f t o : Int, v = .agg #[.int .i64 f, .int .i64 t, .int .i64 o] ∧ In64 f ∧ In64 t ∧ In64 o := by
  simp only [Value.okWide, Tryd.underlying59] at hv
  obtain ⟨ca, rfl, _⟩ := hv
  obtain ⟨fuel, hf⟩ := h
  obtain ⟨xs, m, _, hxd, hcl, hxl, hf⟩ := DataW.trod_struct Tryd.underlying59 hf
  rw [cellsPl] at hcl
  obtain ⟨cs, hcs⟩ : ∃ cs, cs = (Value.agg ca).cells.toList := ⟨_, rfl⟩
  rw [← hcs] at hf hcl
  match xs, hxl with
  | [x0, x1, x2], _ =>
    have h0 : DataW.trod enc Tryd.prog W 0 (fun _ => true) true m 3 ((cs.drop 0).take 1) = some x0 := by have := hf 0 _ rfl; simpa [cellsIn] using this
    have h1 : DataW.trod enc Tryd.prog W 0 (fun _ => true) true m 3 ((cs.drop 1).take 1) = some x1 := by have := hf 1 _ rfl; simpa [cellsIn] using this
    have h2 : DataW.trod enc Tryd.prog W 0 (fun _ => true) true m 3 ((cs.drop 2).take 1) = some x2 := by have := hf 2 _ rfl; simpa [cellsIn] using this
    obtain ⟨n0, e0, _, w0⟩ := DataW.trod_int Tryd.underlying3 h0
    obtain ⟨n1, e1, _, w1⟩ := DataW.trod_int Tryd.underlying3 h1
    obtain ⟨n2, e2, _, w2⟩ := DataW.trod_int Tryd.underlying3 h2
    refine ⟨n0, n1, n2, ?_, int64_of w0, int64_of w1, int64_of w2⟩
    have hs : ca.toList = [.int .i64 n0, .int .i64 n1, .int .i64 n2] := by
      have h3 := split3 cs hcl
      rw [e0, e1, e2] at h3
      rw [hcs] at h3
      exact h3
    rw [← Array.toArray_toList (xs := ca), hs]
end Go.Proofs.YtmdgefiojapogaaDoor
