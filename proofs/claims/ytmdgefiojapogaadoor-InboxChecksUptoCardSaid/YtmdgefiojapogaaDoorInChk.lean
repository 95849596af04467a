/- Check of inbox. Conditions: the table of the steps lies in its variable; at most 2^20 entries. -/
import Derived.Test.YtmdgefiojapogaaDoorInAdd
namespace Go.Proofs.YtmdgefiojapogaaDoor
open Go.RowKit
attribute [local go_sem high] one8 st8 cm8 b_and8 b_and8r b_and8l b_or8 b_or8r b_or8l b_xor8 b_xor8r b_xor8l b_andNot8 b_andNot8r b_andNot8l b_add8 b_add8r b_add8l b_sub8 b_sub8r b_sub8l b_mul8 b_mul8r b_mul8l b_eql8 b_eql8r b_eql8l b_neq8 b_neq8r b_neq8l b_lss8 b_lss8r b_lss8l b_leq8 b_leq8r b_leq8l b_gtr8 b_gtr8r b_gtr8l b_geq8 b_geq8r b_geq8l b_quo8r b_rem8r b_shl8r b_shr8r b_shl8l b_shr8l u_xor8 g_eql8 g_neq8 g_eql8' g_neq8' one32 st32 cm32 b_and32 b_and32r b_and32l b_or32 b_or32r b_or32l b_xor32 b_xor32r b_xor32l b_andNot32 b_andNot32r b_andNot32l b_add32 b_add32r b_add32l b_sub32 b_sub32r b_sub32l b_mul32 b_mul32r b_mul32l b_eql32 b_eql32r b_eql32l b_neq32 b_neq32r b_neq32l b_lss32 b_lss32r b_lss32l b_leq32 b_leq32r b_leq32l b_gtr32 b_gtr32r b_gtr32l b_geq32 b_geq32r b_geq32l b_quo32r b_rem32r b_shl32r b_shr32r b_shl32l b_shr32l u_xor32 g_eql32 g_neq32 g_eql32' g_neq32' one64 st64 cm64 b_and64 b_and64r b_and64l b_or64 b_or64r b_or64l b_xor64 b_xor64r b_xor64l b_andNot64 b_andNot64r b_andNot64l b_add64 b_add64r b_add64l b_sub64 b_sub64r b_sub64l b_mul64 b_mul64r b_mul64l b_eql64 b_eql64r b_eql64l b_neq64 b_neq64r b_neq64l b_lss64 b_lss64r b_lss64l b_leq64 b_leq64r b_leq64l b_gtr64 b_gtr64r b_gtr64l b_geq64 b_geq64r b_geq64l b_quo64r b_rem64r b_shl64r b_shr64r b_shl64l b_shr64l u_xor64 g_eql64 g_neq64 g_eql64' g_neq64' c_u8_u8 c_u8_u32 c_u8_u64 c_i_u8 c_u32_u8 c_u32_u32 c_u32_u64 c_i_u32 c_u64_u8 c_u64_u32 c_u64_u64 c_i_u64 c_u8_i c_u32_i
attribute [local go_sem ↓] ce8 ce32 ce64
attribute [local go_sem ↓] sliced_slp loadO26 storeO26 loadOEn storeOEn buildZDg buildZEn
/-- Is it earlier than the one ahead? -/
def earlyP (p : Option Int) (x : En) : Bool := match p with | none => false | some t => decide (x.time < t)
/-- What Check tells: from a link on, the time of the one ahead. -/
def chkF (hf : Bs → Bs) (dst : Bs) : Option Int → Bs → List En → Int
  | _, k, [] => if k = dst then 0 else 154
  | p, k, x :: l => if x.fine then (if earlyP p x then 153 else chkF hf dst (some x.time) (nextH hf k x) l) else 150
def prevT (es : List Ev) (i : Nat) : Option Int := if i = 0 then none else (es[i - 1]?).map fun x => x.1.time
def linkI (hf : Bs → Bs) (k : Bs) (es : List Ev) : Bs := es.foldl (fun k x => nextH hf k x.1) k
theorem linkI_succ (hf : Bs → Bs) (k : Bs) (es : List Ev) (i : Nat) (x : Ev) (h : es[i]? = some x) : linkI hf k (es.take (i + 1)) = nextH hf (linkI hf k (es.take i)) x.1 := by
  unfold linkI
  rw [List.take_add_one, h, List.foldl_append]; rfl
theorem nextH_len {hf : Bs → Bs} (hl : ∀ d, (hf d).length = 32) (k : Bs) (x : En) : (nextH hf k x).length = 32 := by
  unfold nextH
  split
  · exact hl _
  · exact zeros_length 32
theorem linkI_len {hf : Bs → Bs} (hl : ∀ d, (hf d).length = 32) : ∀ (es : List Ev) (k : Bs), k.length = 32 → (linkI hf k es).length = 32
  | [], k, h => h
  | x :: es, k, h => linkI_len hl es _ (nextH_len hl k x.1)
theorem chkF_step (hf : Bs → Bs) (dst k : Bs) (es : List Ev) (i : Nat) (x : Ev) (h : es[i]? = some x) : chkF hf dst (prevT es i) k ((es.drop i).map Subtype.val) = if x.1.fine then (if earlyP (prevT es i) x.1 then 153 else chkF hf dst (prevT es (i + 1)) (nextH hf k x.1) ((es.drop (i + 1)).map Subtype.val)) else 150 := by
  have hi := (List.getElem?_eq_some_iff.1 h).1
  rw [List.drop_eq_getElem_cons hi, (List.getElem?_eq_some_iff.1 h).2, List.map_cons, chkF]
  have e : prevT es (i + 1) = some x.1.time := by unfold prevT; rw [if_neg (by omega), Nat.add_sub_cancel, h]; rfl
  rw [e]
theorem storeNewD3 (w : World) (o o2 : Obj) (d : Bs) (hd : d.length = 32) (Z : Array Value) (hZ : Z.size = 32) : (StoreO 24 (.pointer (some ⟨w.heap.size + 1 + 1, 0, none⟩)) (dv d)).run Tryd.prog (((w.alloc o).alloc o2).alloc (.cells Z 24)) = .ok () (((w.alloc o).alloc o2).alloc (.cells (d.map V8).toArray 24)) := by
  have h := storeDv (w := ((w.alloc o).alloc o2).alloc (.cells Z 24)) d hd (hp_new ((w.alloc o).alloc o2) _ (w.heap.size + 1 + 1) (by simp)) hZ
  rw [setRow_alloc_at _ _ _ _ _ (by simp)] at h
  exact h
structure Ents (W : World) (p : Option Addr) (c : Nat) (es : List Ev) : Prop where
  rd : RdN 49 evc W p c es
  body : ∀ x ∈ es, Rd V8 W x.1.body.p x.1.body.cap x.1.body.d
  small : es.length ≤ 1048577
theorem Ents.mod0 {a w : World} {p : Option Addr} {c : Nat} {es : List Ev} (h : Ents a p c es) (m : Mod [] a w) : Ents w p c es := ⟨h.rd.mod0 m, fun x hx => (h.body x hx).mod0 m, h.small⟩
set_option maxRecDepth 100000 in
set_option maxHeartbeats 2000000 in
theorem check_in {hf : Bs → Bs} (src dst : Bs) (hs : src.length = 32) (hd : dst.length = 32) (p : Option Addr) (c n : Nat) (es : List Ev) (w : World) (hn : n = es.length) (h : Ents w p c es) (H : Hs hf w) :
    Calls Tryd.prog 12 #[dv src, dv dst, .slice p n c] w fun e w' => e = .returned (.int .i64 (chkF hf dst none src (es.map Subtype.val))) ∧ Mod [] w w' := by
  obtain ⟨R, hR⟩ : ∃ R, R = chkF hf dst none src (es.map Subtype.val) := ⟨_, rfl⟩
  rw [← hR]
  have HR0 := Lib.hid hR
  clear hR
  have HE := Lib.hid h
  have HH := Lib.hid H
  have HN := Lib.hid hn
  have HS := Lib.hid hs
  have HD := Lib.hid hd
  have hn20 : n ≤ 1048577 := by rw [hn]; exact h.small
  have hL0 : ∀ (A : Obj), (LoadO 24 (.pointer (some ⟨w.heap.size, 0, none⟩))).run Tryd.prog ((w.alloc (.cells (src.map V8).toArray 24)).alloc A) = .ok (dv src) ((w.alloc (.cells (src.map V8).toArray 24)).alloc A) := fun A => loadDv src hs (hp_old (hp_new w _ _ rfl))
  have hL0' : ∀ (A Z : Obj), (LoadO 24 (.pointer (some ⟨w.heap.size, 0, none⟩))).run Tryd.prog (((w.alloc (.cells (src.map V8).toArray 24)).alloc A).alloc Z) = .ok (dv src) (((w.alloc (.cells (src.map V8).toArray 24)).alloc A).alloc Z) := fun A Z => loadDv src hs (hp_old (hp_old (hp_new w _ _ rfl)))
  have hS0 := fun (Z : Array Value) (hZ : Z.size = 32) => storeNewD3 w (.cells (src.map V8).toArray 24) (.cells (dst.map V8).toArray 24) src hs Z hZ
  have hb0 := hp_old (o := .cells (src.map V8).toArray 24) (hp_new (w.alloc (.cells (src.map V8).toArray 24)) (.cells (dst.map V8).toArray 24) (w.heap.size + 1) (by simp))
  have hb1 := hp_new ((w.alloc (.cells (src.map V8).toArray 24)).alloc (.cells (dst.map V8).toArray 24)) (.cells (src.map V8).toArray 24) (w.heap.size + 1 + 1) (by simp)
  have m0 := (((Mod.refl [] w).alloc (.cells (src.map V8).toArray 24)).alloc (.cells (dst.map V8).toArray 24)).alloc (.cells (src.map V8).toArray 24)
  have HB0 := Lib.hid hb0
  have HB1 := Lib.hid hb1
  have M0 := Lib.hid m0
  clear h H hn hs hd hb0 hb1 m0
  have ed : dv dst = .agg (dst.map V8).toArray := rfl
  have es0 : dv src = .agg (src.map V8).toArray := rfl
  go_enter Tryd.func12, Tryd.ntmps12
  rw [ed, es0]
  clear ed es0
  unfold dv at hL0 hL0' hS0
  obtain ⟨ss, hss⟩ : ∃ ss, ss = (src.map V8).toArray := ⟨_, rfl⟩
  obtain ⟨ds, hds⟩ : ∃ ds, ds = (dst.map V8).toArray := ⟨_, rfl⟩
  rw [← hss] at hL0 hL0' hS0 HB0 HB1 M0 ⊢
  rw [← hds] at hS0 HB0 HB1 M0 ⊢
  have HSS := Lib.hid hss
  have HDS := Lib.hid hds
  clear hss hds
  go_wp2_with fail
  clear hL0 hL0' hS0
  obtain ⟨b1, hb1⟩ : ∃ b1, b1 = w.heap.size + 1 := ⟨_, rfl⟩
  obtain ⟨b2, hb2⟩ : ∃ b2, b2 = w.heap.size + 1 + 1 := ⟨_, rfl⟩
  have HB1L := Lib.hid (show w.heap.size ≤ b1 ∧ w.heap.size ≤ b2 ∧ b1 ≠ b2 from by omega)
  rw [← hb2] at HB1 ⊢
  rw [← hb1] at HB0 ⊢
  clear hb1 hb2
  go_loopw [15] (fun iv wr => ∃ (i : Nat) (L : Bs), i ≤ n ∧ iv = .int .i64 i ∧ Hid (L.length = 32 ∧ R = chkF hf dst (prevT es i) L ((es.drop i).map Subtype.val)) ∧ wr.heap[b1]? = some (.cells ds 24) ∧ wr.heap[b2]? = some (.cells (L.map V8).toArray 24) ∧ Mod [] w wr) (fun iv _ => n - (intOf iv).toNat)
  case atStart => exact ⟨0, src, by omega, rfl, Lib.hid ⟨HS.out, HR0.out⟩, HB0.out, by rw [← HSS.out]; exact HB1.out, M0.out⟩
  case round =>
    clear HB0 HB1 M0
    obtain ⟨i, L, hi, rfl, HLC, hb1, hb2, hm⟩ := hrel
    have HBD := Lib.hid hb1
    have HBL := Lib.hid hb2
    have HM := Lib.hid hm
    clear hb1 hb2 hm
    by_cases hlt : i < n
    · obtain ⟨x, hx⟩ : ∃ x, es[i]? = some x := ⟨es[i]'(by rw [← HN.out]; exact hlt), List.getElem?_eq_getElem _⟩
      have hst := chkF_step hf dst L es i x hx
      have HST := Lib.hid (HLC.out.2.trans hst)
      obtain ⟨b, o, hp, hrg⟩ := HE.out.rd.elem evc_len i x hx
      have hL1 := (enAt x.2 (range_mod HM.out hrg (by simp))).ln
      have hL1' := fun (Z : Obj) => (enAt x.2 (range_mod (HM.out.alloc Z) hrg (by simp))).ln
      have hS1 := storeNewEn wr x.1 x.2
      have hb9 := hp_new wr (.cells x.1.cells.toArray 35) _ rfl
      have hL9 := (enBox x.2 hb9).ln
      have hL2 := loadDv L HLC.out.1 (hp_old (o := .cells x.1.cells.toArray 35) HBL.out)
      have MA := Lib.hid (HM.out.alloc (.cells x.1.cells.toArray 35))
      have hbd := HE.out.body x (List.mem_of_getElem? hx)
      have HNX := Lib.hid (next_any (hf := hf) L HLC.out.1 x.1 _ x.2 (hbd.mod0 MA.out) (HH.out.mod0 MA.out))
      have HX := Lib.hid hx
      obtain ⟨X, hX⟩ : ∃ X, X = nextH hf L x.1 := ⟨_, rfl⟩
      rw [← hX] at HNX HST
      have hx32 : X.length = 32 := by rw [hX]; exact nextH_len HH.out.len L x.1
      have HX32 := Lib.hid hx32
      have HXQ := Lib.hid hX
      obtain ⟨cs, hcs⟩ : ∃ cs, cs = x.1.cells.toArray := ⟨_, rfl⟩
      rw [← hcs] at hL1 hL1' hS1 hL9 hL2 MA HNX hb9
      have HCS := Lib.hid hcs
      have HB9 := Lib.hid hb9
      have q0 : (0 : Int) ≤ (i : Int) := by omega
      have q1 : (i : Int) < (n : Int) := by omega
      have HPP := Lib.hid hp
      have HRG := Lib.hid hrg
      subst hp
      clear hst hrg hbd hX hx hcs hx32 hb9
      go_wp2_with fail
      refine HNX.out.mono ?_
      rintro e w2 ⟨rfl, m2⟩
      have hS3 := storeNewD w2 X HX32.out
      have M3 := Lib.hid (m2.alloc (.cells (X.map V8).toArray 24))
      have HB10 := Lib.hid (hp_new w2 (.cells (X.map V8).toArray 24) _ rfl)
      clear m2 hL1 hL1' hS1 hL9 hL2
      cases hc : x.1.fine
      · have hne : nextE x.1 = 150 := by unfold nextE; rw [hc]; rfl
        rw [hne]
        have hst := HST.out
        rw [hc] at hst
        have HST2 := Lib.hid hst
        clear hst hc hne HST
        have HMF := Lib.hid (MA.out.trans0 M3.out)
        go_wp2_with fail
        go_ret
        exact ⟨by rw [HST2.out]; rfl, HMF.out⟩
      · have hne : nextE x.1 = 0 := by unfold nextE; rw [hc]; rfl
        rw [hne]
        have hst := HST.out
        rw [hc, if_pos rfl] at hst
        have HST2 := Lib.hid hst
        clear hst hc hne HST
        obtain ⟨w3, hw3⟩ : ∃ w3, w3 = w2.alloc (.cells (X.map V8).toArray 24) := ⟨_, rfl⟩
        rw [← hw3] at hS3 M3 HB10
        have HW3 := Lib.hid hw3
        clear hw3
        obtain ⟨E, hE⟩ : ∃ E, E = earlyP (prevT es i) x.1 := ⟨_, rfl⟩
        have hst2 := HST2.out
        rw [← hE] at hst2
        have HST3 := Lib.hid hst2
        have HEE := Lib.hid hE
        have k21 : w3.drew.cell? ⟨wr.heap.size, 21, none⟩ = some (.int .i64 x.1.time) := by
          have h := M3.out.get0 HB9.out
          rw [HCS.out] at h
          exact (enBox x.2 h).c21
        clear hst2 hE HST2
        go_wp2_with fail
        clear hS3
        go_cut [30] from 31 to 43 (fun v wx => v = .bool E ∧ wx = w3.drew)
        case first =>
          by_cases hi0 : i = 0
          · subst hi0
            have he : E = false := by rw [HEE.out]; rfl
            subst he
            go_region
            go_wp2_with fail
            go_meet
            case rel => exact ⟨rfl, rfl⟩
          · obtain ⟨m, rfl⟩ : ∃ m, i = m + 1 := ⟨i - 1, by omega⟩
            obtain ⟨y, hy⟩ : ∃ y, es[m]? = some y := ⟨es[m]'(by have := HN.out; omega), List.getElem?_eq_getElem _⟩
            have he : E = decide (x.1.time < y.1.time) := by rw [HEE.out]; unfold prevT; rw [if_neg (by omega), Nat.add_sub_cancel, hy]; rfl
            obtain ⟨b', o', hp', hrg'⟩ := HE.out.rd.elem evc_len m y hy
            injection hp' with hp1
            injection hp1 with hp2 hp3 _
            subst hp2 hp3
            have k2 : w3.drew.cell? ⟨b, o + m * 49 + 21, none⟩ = some (.int .i64 y.1.time) := (enAt y.2 (range_mod (MA.out.trans0 M3.out).drew hrg' (by simp))).c21
            have he2 : decide (x.1.time < y.1.time) = E := he.symm
            have q2 : (0 : Int) < (m : Int) + 1 := by omega
            have q3 : (0 : Int) ≤ (m : Int) := by omega
            have q4 : (m : Int) < (n : Int) := by omega
            clear hy he hrg' hi0
            go_region
            all_goals
              go_wp2_with fail
              go_meet
              case rel => exact ⟨rfl, rfl⟩
        case rest =>
          obtain ⟨rfl, hwc⟩ := hcut
          have hwc2 := hwc.symm
          clear hwc
          subst hwc2
          have HMF := Lib.hid ((MA.out.trans0 M3.out).drew)
          clear k21
          cases E
          · have hst2 := HST3.out
            rw [if_neg (by decide)] at hst2
            have HST4 := Lib.hid hst2
            have hL10 := loadDv (w := w3.drew) X HX32.out (hp_drew HB10.out)
            have hbl := M3.out.get0 (hp_old (o := .cells cs 35) HBL.out)
            have hS7 := storeDv (w := w3.drew) X HX32.out (hp_drew hbl) (by simp [HLC.out.1])
            have HR7 := Lib.hid (hp_setRow (cs := (X.map V8).toArray) (hp_drew hbl))
            have HD7 := Lib.hid (hp_setRow_ne (cs := (X.map V8).toArray) (hp_drew (M3.out.get0 (hp_old (o := .cells cs 35) HBD.out))) HB1L.out.2.2)
            clear hst2 hbl HST3
            go_wp2_with fail
            go_roundw
            case rel => exact ⟨i + 1, X, hlt, by go_num, Lib.hid ⟨HX32.out, by rw [HST4.out, HXQ.out]⟩, HD7.out, HR7.out, HMF.out.setRow (.inr HB1L.out.2.1) _⟩
            case measure => simp [intOf]; omega
          · have hst2 := HST3.out
            rw [if_pos rfl] at hst2
            have HST4 := Lib.hid hst2
            clear hst2 HST3
            go_wp2_with fail
            go_ret
            exact ⟨by rw [HST4.out]; rfl, HMF.out⟩
    · have hin : i = n := by omega
      have hnl : ¬ ((i : Int) < (n : Int)) := by omega
      have hend := HLC.out.2
      rw [hin, HN.out, List.drop_length] at hend
      have HEND := Lib.hid hend
      have hL1 := loadDv L HLC.out.1 HBL.out
      have hbd := HBD.out
      rw [HDS.out] at hbd
      have hL2 := loadDv dst HD.out hbd
      have hNE : ∀ w, (binOp .neq 24 (dv L) (dv dst)).run Tryd.prog w = .ok (.bool (!(L == dst))) w := fun w => neqDg w L dst HLC.out.1 HD.out
      have hEG := eqGuardD
      clear hend hbd
      by_cases hq : L = dst
      · have hb : (L == dst) = true := by simp [hq]
        have HQ := Lib.hid hq
        clear hq
        go_wp2_with fail
        go_ret
        exact ⟨by rw [HEND.out, List.map_nil, chkF, if_pos HQ.out]; rfl, HM.out⟩
      · have hb : (L == dst) = false := by simp [hq]
        have HQ := Lib.hid hq
        clear hq
        go_wp2_with fail
        go_ret
        exact ⟨by rw [HEND.out, List.map_nil, chkF, if_neg HQ.out]; rfl, HM.out⟩
end Go.Proofs.YtmdgefiojapogaaDoor
