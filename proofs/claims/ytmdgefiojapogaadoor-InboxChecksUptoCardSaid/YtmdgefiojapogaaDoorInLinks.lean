/- Links of inbox's reference: the link behind each first part. Conditions: the tables lie in their variables; at most 2^20 entries. -/
import Derived.Test.YtmdgefiojapogaaDoorInChk
namespace Go.Proofs.YtmdgefiojapogaaDoor
open Go.RowKit
attribute [local go_sem high] one8 st8 cm8 b_and8 b_and8r b_and8l b_or8 b_or8r b_or8l b_xor8 b_xor8r b_xor8l b_andNot8 b_andNot8r b_andNot8l b_add8 b_add8r b_add8l b_sub8 b_sub8r b_sub8l b_mul8 b_mul8r b_mul8l b_eql8 b_eql8r b_eql8l b_neq8 b_neq8r b_neq8l b_lss8 b_lss8r b_lss8l b_leq8 b_leq8r b_leq8l b_gtr8 b_gtr8r b_gtr8l b_geq8 b_geq8r b_geq8l b_quo8r b_rem8r b_shl8r b_shr8r b_shl8l b_shr8l u_xor8 g_eql8 g_neq8 g_eql8' g_neq8' one32 st32 cm32 b_and32 b_and32r b_and32l b_or32 b_or32r b_or32l b_xor32 b_xor32r b_xor32l b_andNot32 b_andNot32r b_andNot32l b_add32 b_add32r b_add32l b_sub32 b_sub32r b_sub32l b_mul32 b_mul32r b_mul32l b_eql32 b_eql32r b_eql32l b_neq32 b_neq32r b_neq32l b_lss32 b_lss32r b_lss32l b_leq32 b_leq32r b_leq32l b_gtr32 b_gtr32r b_gtr32l b_geq32 b_geq32r b_geq32l b_quo32r b_rem32r b_shl32r b_shr32r b_shl32l b_shr32l u_xor32 g_eql32 g_neq32 g_eql32' g_neq32' one64 st64 cm64 b_and64 b_and64r b_and64l b_or64 b_or64r b_or64l b_xor64 b_xor64r b_xor64l b_andNot64 b_andNot64r b_andNot64l b_add64 b_add64r b_add64l b_sub64 b_sub64r b_sub64l b_mul64 b_mul64r b_mul64l b_eql64 b_eql64r b_eql64l b_neq64 b_neq64r b_neq64l b_lss64 b_lss64r b_lss64l b_leq64 b_leq64r b_leq64l b_gtr64 b_gtr64r b_gtr64l b_geq64 b_geq64r b_geq64l b_quo64r b_rem64r b_shl64r b_shr64r b_shl64l b_shr64l u_xor64 g_eql64 g_neq64 g_eql64' g_neq64' c_u8_u8 c_u8_u32 c_u8_u64 c_i_u8 c_u32_u8 c_u32_u32 c_u32_u64 c_i_u32 c_u64_u8 c_u64_u32 c_u64_u64 c_i_u64 c_u8_i c_u32_i
attribute [local go_sem ↓] ce8 ce32 ce64
attribute [local go_sem ↓] sliced_slp loadO26 storeO26 loadOEn storeOEn buildZDg buildZEn buildSlO42
/-- The links behind the first parts. -/
structure LinksOf (hf : Bs → Bs) (src : Bs) (es : List Ev) (n : Nat) (ks : List Bs) : Prop where
  len : ks.length = n + 1
  k32 : ∀ k ∈ ks, k.length = 32
  at_ : ∀ j : Nat, j ≤ n → ks[j]? = some (linkI hf src (es.take j))
theorem LinksOf.start (hf : Bs → Bs) (src : Bs) (h : src.length = 32) (es : List Ev) : LinksOf hf src es 0 [src] := by
  refine ⟨rfl, fun k hk => ?_, fun j hj => ?_⟩
  · rw [List.mem_singleton.1 hk]; exact h
  · obtain rfl : j = 0 := by omega
    rfl
theorem LinksOf.step {hf : Bs → Bs} {src : Bs} {es : List Ev} {i : Nat} {ks : List Bs} (h : LinksOf hf src es i ks) (X : Bs) (hX : X = linkI hf src (es.take (i + 1))) (h32 : X.length = 32) : LinksOf hf src es (i + 1) (ks ++ [X]) := by
  refine ⟨by rw [List.length_append, h.len]; rfl, fun k hk => ?_, fun j hj => ?_⟩
  · rcases List.mem_append.1 hk with hk | hk
    · exact h.k32 k hk
    · rw [List.mem_singleton.1 hk]; exact h32
  · by_cases hji : j ≤ i
    · rw [List.getElem?_append_left (by rw [h.len]; omega)]; exact h.at_ j hji
    · obtain rfl : j = i + 1 := by omega
      rw [List.getElem?_append_right (by rw [h.len]; exact Nat.le_refl _), h.len, Nat.sub_self, hX]; rfl
theorem ownD_one (w : World) (B : Nat) (d : Bs) (hB : B ≤ w.heap.size) : OwnD (w.alloc (.cells (dgc d).toArray 24)) B (.slice (some ⟨w.heap.size, 0, none⟩) 1 1) [d] := by
  refine ⟨by simp [dgc_len], .inr ⟨w.heap.size, 1, (dgc d).toArray, rfl, hB, hp_new _ _ _ rfl, by simp, by unfold maxLen; omega, dgc_len d, ?_⟩⟩
  rw [List.take_of_length_le (by simp [dgc_len])]
  simp [List.flatMap_cons]
theorem wpList_pushD {ops : Array Oper} {rest : List Oper} {o : Oper} {a : Act} {Q : Exit → Act → World → Prop} {w : World} (hgd : o.guard = none) (so x : Operand)
    (ho : o.op = .call { callee := .builtin .append, args := #[so, x], argTypes := #[36, 36] })
    (B : Nat) (v : Value) (l : List Bs) (hown : OwnD w B v l) (hs : a.eval so = v) (b : Nat) (d : Bs) (hx : a.eval x = .slice (some ⟨b, 0, none⟩) 1 1)
    (hr : w.heap[b]? = some (.cells (dgc d).toArray 24)) (hlen : l.length ≤ 4294967296) (hbase : B ≤ w.heap.size)
    (h : ∀ v' w', OwnD w' B v' (l ++ [d]) → w.grownBy w' v.ownBlock → wpList Tryd.prog ops Q rest (a.put o.dst v') w') : wpList Tryd.prog ops Q (o :: rest) a w :=
  wpList_pushN (dv (zeros 32)) 32 Tryd.underlying36 infoD rfl (by decide) dgc_len dgc_one hgd so x ho B v l hown hs b 0 1 1 [d] hx rfl (range_blk hr 0 _ (fun j v hv => by simpa using hv)) (by unfold maxLen; simp; omega) (by simp; omega) hbase h
def LinksPost (hf : Bs → Bs) (src : Bs) (es : List Ev) (w : World) (e : Ending) (w' : World) : Prop :=
  ∃ v ks, e = .returned v ∧ OwnD w' w.heap.size v ks ∧ LinksOf hf src es es.length ks ∧ Mod [] w w'
set_option maxRecDepth 100000 in
set_option maxHeartbeats 1000000 in
theorem links_any {hf : Bs → Bs} (src : Bs) (hs : src.length = 32) (p : Option Addr) (c n : Nat) (es : List Ev) (w : World) (hn : n = es.length) (h : Ents w p c es) (H : Hs hf w) (R : Rf w) :
    Calls Tryd.prog 11 #[dv src, .slice p n c] w (LinksPost hf src es w) := by
  have HE := Lib.hid h
  have HH := Lib.hid H
  have HRF := Lib.hid R
  have HN := Lib.hid hn
  have HS := Lib.hid hs
  have hn20 : n ≤ 1048577 := by rw [hn]; exact h.small
  have hL0 := loadDv (w := w.alloc (.cells (src.map V8).toArray 24)) src hs (hp_new w _ _ rfl)
  have hB0 := run_buildD (w.alloc (.cells (src.map V8).toArray 24)) src hs
  have hO0 := ownD_one (w.alloc (.cells (src.map V8).toArray 24)) w.heap.size src (by rw [alloc_hs]; omega)
  have m0 := ((Mod.refl [] w).alloc (.cells (src.map V8).toArray 24)).alloc (.cells (dgc src).toArray 24)
  have es0 : dv src = .agg (src.map V8).toArray := rfl
  rw [es0] at hL0 hB0 ⊢
  obtain ⟨ss, hss⟩ : ∃ ss, ss = (src.map V8).toArray := ⟨_, rfl⟩
  rw [← hss] at hL0 hB0 hO0 m0 ⊢
  obtain ⟨sd, hsd⟩ : ∃ sd, sd = (dgc src).toArray := ⟨_, rfl⟩
  rw [← hsd] at hB0 hO0 m0
  rw [show (w.alloc (.cells ss 24)).heap.size = w.heap.size + 1 from alloc_hs _ _] at hO0
  have HO0 := Lib.hid hO0
  have M0 := Lib.hid m0
  clear h H R hn hs hss hsd hO0 m0 es0
  go_enter Tryd.func11, Tryd.ntmps11
  go_wp2_with fail
  clear hL0 hB0
  go_loopw [6, 5] (fun iv ov wr => ∃ (i : Nat) (ks : List Bs), i ≤ n ∧ iv = .int .i64 i ∧ Hid (OwnD wr w.heap.size ov ks ∧ LinksOf hf src es i ks) ∧ Mod [] w wr) (fun iv _ _ => n - (intOf iv).toNat)
  case atStart => exact ⟨0, [src], by omega, rfl, Lib.hid ⟨HO0.out, LinksOf.start hf src HS.out es⟩, M0.out⟩
  case round =>
    clear HO0 M0
    obtain ⟨i, ks, hi, rfl, HLC, hm⟩ := hrel
    have HM := Lib.hid hm
    clear hm
    by_cases hlt : i < n
    · obtain ⟨x, hx⟩ : ∃ x, es[i]? = some x := ⟨es[i]'(by rw [← HN.out]; exact hlt), List.getElem?_eq_getElem _⟩
      obtain ⟨L, hL⟩ : ∃ L, L = linkI hf src (es.take i) := ⟨_, rfl⟩
      have hk := HLC.out.2.at_ i (Nat.le_refl _)
      rw [← hL] at hk
      have hL32 := HLC.out.2.k32 L (List.mem_of_getElem? hk)
      obtain ⟨pl, cl, hvl, hrl, hol, _⟩ := HLC.out.1.rd
      obtain ⟨bl, ol, hpl, _⟩ := hrl.elem dgc_len i L hk
      subst hpl
      have HVL := Lib.hid hvl
      subst hvl
      have hkl : ks.length = i + 1 := HLC.out.2.len
      have HOL := Lib.hid HLC.out.1
      rw [hkl] at HOL ⊢
      have l1 := loadD_at (w := wr.drew) (hrl.mod0 (Mod.refl [] wr).drew) (i := i) L hk hL32
      have l1' := fun (Z : Obj) => loadD_at (w := (wr.alloc Z).drew) (hrl.mod0 ((Mod.refl [] wr).alloc Z).drew) (i := i) L hk hL32
      obtain ⟨b, o, hp, hrg⟩ := HE.out.rd.elem evc_len i x hx
      have l2 := (enAt x.2 (range_mod HM.out.drew hrg (by simp))).ln
      have l2' := fun (Z : Obj) => (enAt x.2 (range_mod (HM.out.alloc Z).drew hrg (by simp))).ln
      have hbd := HE.out.body x (List.mem_of_getElem? hx)
      have HNX := Lib.hid (fun (V : World) (m : Mod [] wr V) => rnext_any (hf := hf) L hL32 x.1 V x.2 (hbd.mod0 (HM.out.trans0 m)) (HH.out.mod0 (HM.out.trans0 m)) (HRF.out.mod0 (HM.out.trans0 m)))
      obtain ⟨X, hX⟩ : ∃ X, X = nextH hf L x.1 := ⟨_, rfl⟩
      have hx32 : X.length = 32 := by rw [hX]; exact nextH_len HH.out.len L x.1
      have HXL := Lib.hid (show X = linkI hf src (es.take (i + 1)) by rw [hX, linkI_succ hf src es i x hx, hL])
      obtain ⟨E, hE⟩ : ∃ E, E = nextE x.1 := ⟨_, rfl⟩
      rw [← hX, ← hE] at HNX
      obtain ⟨cs, hcs⟩ : ∃ cs, cs = x.1.cells.toArray := ⟨_, rfl⟩
      rw [← hcs] at l2 l2' HNX
      have q0 : (0 : Int) ≤ (i : Int) := by omega
      have q1 : (i : Int) < (n : Int) := by omega
      have q2 : (i : Int) < (i : Int) + 1 := by omega
      have HX32 := Lib.hid hx32
      subst hp
      clear hX hE hcs hx hk hL hL32 hrl hrg hbd hx32 hol
      go_wp2_with fail
      go_cut [7, 8] from 17 to 28 (fun s7 s8 wx => ∃ b7, s7 = .pointer (some ⟨b7, 0, none⟩) ∧ s8 = .int .i64 E ∧ wx.heap[b7]? = some (.cells (X.map V8).toArray 24) ∧ Mod [] wr wx)
      case first =>
        go_region_law (first
          | (go_simp; go_at_call 15; with_reducible refine (HNX.out _ (Mod.refl [] wr).drew).mono ?_
             rintro _ w4 ⟨rfl, m4⟩
             have hS := storeNewD w4 X HX32.out)
          | (go_simp; go_at_call 15; with_reducible refine (HNX.out _ ((Mod.refl [] wr).alloc (.cells #[Value.int .u8 0, Value.int .u8 0, Value.int .u8 0, Value.int .u8 0, Value.int .u8 0, Value.int .u8 0, Value.int .u8 0, Value.int .u8 0, Value.int .u8 0, Value.int .u8 0, Value.int .u8 0, Value.int .u8 0, Value.int .u8 0, Value.int .u8 0, Value.int .u8 0, Value.int .u8 0, Value.int .u8 0, Value.int .u8 0, Value.int .u8 0, Value.int .u8 0, Value.int .u8 0, Value.int .u8 0, Value.int .u8 0, Value.int .u8 0, Value.int .u8 0, Value.int .u8 0, Value.int .u8 0, Value.int .u8 0, Value.int .u8 0, Value.int .u8 0, Value.int .u8 0, Value.int .u8 0] 24)).drew).mono ?_
             rintro _ w4 ⟨rfl, m4⟩
             have hS := storeDv X HX32.out (m4.get0 (hp_new wr (.cells #[Value.int .u8 0, Value.int .u8 0, Value.int .u8 0, Value.int .u8 0, Value.int .u8 0, Value.int .u8 0, Value.int .u8 0, Value.int .u8 0, Value.int .u8 0, Value.int .u8 0, Value.int .u8 0, Value.int .u8 0, Value.int .u8 0, Value.int .u8 0, Value.int .u8 0, Value.int .u8 0, Value.int .u8 0, Value.int .u8 0, Value.int .u8 0, Value.int .u8 0, Value.int .u8 0, Value.int .u8 0, Value.int .u8 0, Value.int .u8 0, Value.int .u8 0, Value.int .u8 0, Value.int .u8 0, Value.int .u8 0, Value.int .u8 0, Value.int .u8 0, Value.int .u8 0, Value.int .u8 0] 24) _ rfl)) rfl))
        all_goals
          go_wp2_with fail
          go_meet
          case rel => first
            | exact ⟨_, rfl, rfl, hp_new w4 _ _ rfl, ((Mod.refl [] wr).drew.trans0 m4).alloc _⟩
            | exact ⟨_, rfl, rfl, hp_setRow (m4.get0 (hp_new wr (.cells #[Value.int .u8 0, Value.int .u8 0, Value.int .u8 0, Value.int .u8 0, Value.int .u8 0, Value.int .u8 0, Value.int .u8 0, Value.int .u8 0, Value.int .u8 0, Value.int .u8 0, Value.int .u8 0, Value.int .u8 0, Value.int .u8 0, Value.int .u8 0, Value.int .u8 0, Value.int .u8 0, Value.int .u8 0, Value.int .u8 0, Value.int .u8 0, Value.int .u8 0, Value.int .u8 0, Value.int .u8 0, Value.int .u8 0, Value.int .u8 0, Value.int .u8 0, Value.int .u8 0, Value.int .u8 0, Value.int .u8 0, Value.int .u8 0, Value.int .u8 0, Value.int .u8 0, Value.int .u8 0] 24) _ rfl)), (((Mod.refl [] wr).alloc (.cells #[Value.int .u8 0, Value.int .u8 0, Value.int .u8 0, Value.int .u8 0, Value.int .u8 0, Value.int .u8 0, Value.int .u8 0, Value.int .u8 0, Value.int .u8 0, Value.int .u8 0, Value.int .u8 0, Value.int .u8 0, Value.int .u8 0, Value.int .u8 0, Value.int .u8 0, Value.int .u8 0, Value.int .u8 0, Value.int .u8 0, Value.int .u8 0, Value.int .u8 0, Value.int .u8 0, Value.int .u8 0, Value.int .u8 0, Value.int .u8 0, Value.int .u8 0, Value.int .u8 0, Value.int .u8 0, Value.int .u8 0, Value.int .u8 0, Value.int .u8 0, Value.int .u8 0, Value.int .u8 0] 24)).drew.trans0 m4).setRow (.inr (Nat.le_refl _)) _⟩
      case rest =>
        obtain ⟨b7, rfl, rfl, hb7, m7⟩ := hcut
        clear l1 l1' l2 l2' HNX
        have hL7 := loadDv X HX32.out hb7
        have hB7 := run_buildD wc X HX32.out
        have M7 := Lib.hid (m7.alloc (.cells (dgc X).toArray 24))
        have HMS := Lib.hid (Nat.le_trans HM.out.size M7.out.size)
        clear hb7 m7
        go_wp2_with (at_builtin; with_reducible refine froz_app _ _ rfl ?_)
        unfold Froz
        refine wpList_pushD rfl _ _ rfl w.heap.size (.slice (some ⟨bl, ol, none⟩) (i + 1) cl) ks (HOL.out.mod0 M7.out) rfl wc.heap.size X rfl (hp_new wc _ _ rfl) (by have := HLC.out.2.len; omega) HMS.out ?_
        intro v' w' ho hg
        have HNEW := Lib.hid (show OwnD w' w.heap.size v' (ks ++ [X]) ∧ LinksOf hf src es (i + 1) (ks ++ [X]) from ⟨ho, HLC.out.2.step X HXL.out HX32.out⟩)
        have HG := Lib.hid ((HM.out.trans0 M7.out).of_grown hg (fun z hz => .inr (HOL.out.row z hz)))
        clear ho hg hL7 hB7
        go_wp2_with fail
        go_roundw
        case rel => exact ⟨i + 1, _, hlt, by go_num, HNEW.out |> Lib.hid, HG.out⟩
        case measure => simp [intOf]; omega
    · have hin : i = n := by omega
      have q9 : ¬ ((i : Int) < (n : Int)) := by omega
      have HEND := Lib.hid (show LinksOf hf src es es.length ks from by rw [← HN.out, ← hin]; exact HLC.out.2)
      go_wp2_with fail
      go_ret
      exact ⟨_, ks, rfl, HLC.out.1, HEND.out, HM.out⟩
end Go.Proofs.YtmdgefiojapogaaDoor
