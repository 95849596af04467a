/- The program's log: Add. Conditions: as TrLogM. -/
import Derived.Test.YtbbobpjcbnfpfaaDoorTrLogR
import Derived.Test.YtbbobpjcbnfpfaaDoorTrPath
namespace Go.Proofs.YtbbobpjcbnfpfaaDoor
open Go.RowKit
attribute [local go_sem high] one8 st8 cm8 b_and8 b_and8r b_and8l b_or8 b_or8r b_or8l b_xor8 b_xor8r b_xor8l b_andNot8 b_andNot8r b_andNot8l b_add8 b_add8r b_add8l b_sub8 b_sub8r b_sub8l b_mul8 b_mul8r b_mul8l b_eql8 b_eql8r b_eql8l b_neq8 b_neq8r b_neq8l b_lss8 b_lss8r b_lss8l b_leq8 b_leq8r b_leq8l b_gtr8 b_gtr8r b_gtr8l b_geq8 b_geq8r b_geq8l b_quo8r b_rem8r b_shl8r b_shr8r b_shl8l b_shr8l u_xor8 g_eql8 g_neq8 g_eql8' g_neq8' one32 st32 cm32 b_and32 b_and32r b_and32l b_or32 b_or32r b_or32l b_xor32 b_xor32r b_xor32l b_andNot32 b_andNot32r b_andNot32l b_add32 b_add32r b_add32l b_sub32 b_sub32r b_sub32l b_mul32 b_mul32r b_mul32l b_eql32 b_eql32r b_eql32l b_neq32 b_neq32r b_neq32l b_lss32 b_lss32r b_lss32l b_leq32 b_leq32r b_leq32l b_gtr32 b_gtr32r b_gtr32l b_geq32 b_geq32r b_geq32l b_quo32r b_rem32r b_shl32r b_shr32r b_shl32l b_shr32l u_xor32 g_eql32 g_neq32 g_eql32' g_neq32' one64 st64 cm64 b_and64 b_and64r b_and64l b_or64 b_or64r b_or64l b_xor64 b_xor64r b_xor64l b_andNot64 b_andNot64r b_andNot64l b_add64 b_add64r b_add64l b_sub64 b_sub64r b_sub64l b_mul64 b_mul64r b_mul64l b_eql64 b_eql64r b_eql64l b_neq64 b_neq64r b_neq64l b_lss64 b_lss64r b_lss64l b_leq64 b_leq64r b_leq64l b_gtr64 b_gtr64r b_gtr64l b_geq64 b_geq64r b_geq64l b_quo64r b_rem64r b_shl64r b_shr64r b_shl64l b_shr64l u_xor64 g_eql64 g_neq64 g_eql64' g_neq64' c_u8_u8 c_u8_u32 c_u8_u64 c_i_u8 c_u32_u8 c_u32_u32 c_u32_u64 c_i_u32 c_u64_u8 c_u64_u32 c_u64_u64 c_i_u64 c_u8_i c_u32_i
attribute [local go_sem ↓] ce8 ce32 ce64
attribute [local go_sem ↓] sliced_slp loadO26 storeO26 buildO24 buildSlO42
theorem lroot_any {hf : Bs → Bs} (B g size : Nat) (v : Value) (front : List Bs) (w : World) (h : IsLog w B g size v front) (H : Hs hf w) :
    Calls Tryd.prog 52 #[.pointer (some ⟨g, 0, none⟩)] w fun e w' => e = .returned (dv (logRoot hf front)) ∧ Mod [] w w' := by
  by_cases h0 : front = []
  · subst h0
    exact lroot_nil B g size v w h H
  · obtain ⟨q, x, rfl⟩ : ∃ q x, front = q ++ [x] := ⟨front.dropLast, front.getLast h0, (List.dropLast_concat_getLast h0).symm⟩
    have e : logRoot hf (q ++ [x]) = foldF hf x q.reverse := by unfold logRoot; rw [List.reverse_append]; rfl
    rw [e]
    exact lroot_cons B g size q.length v q x w h rfl H
theorem logRoot_len {hf : Bs → Bs} (hl : ∀ d, (hf d).length = 32) {front : List Bs} (a : All32 front) : (logRoot hf front).length = 32 := by
  have hfold : ∀ (l : List Bs) (d : Bs), d.length = 32 → (foldF hf d l).length = 32 := by
    intro l
    induction l with
    | nil => intro d h; exact h
    | cons x l ih => intro d _; exact ih _ (hl _)
  unfold logRoot
  cases hr : front.reverse with
  | nil => exact hl _
  | cons d l => exact hfold l d (a d (by rw [← List.mem_reverse, hr]; simp))
theorem not_of (n : Nat) (h : n < 18446744073709551616) : V64 (~~~(UInt64.ofNat n)) = .int .u64 ((18446744073709551615 - n : Nat) : Int) := by
  unfold V64
  have e : (~~~(UInt64.ofNat n)).toNat = 18446744073709551615 - n := by
    rw [UInt64.toNat_not, UInt64.toNat_ofNat', Nat.mod_eq_of_lt (by omega)]
    rfl
  rw [e]
/-- append(list, d) as one step of a region, in detail. -/
theorem appD3 {ops : Array Oper} {o : Oper} {a : Act} {Q : Exit → Act → World → Prop} {w : World} {K : Act → World → Prop} {EE : Prop} (hgd : o.guard = none) (so x : Operand)
    (ho : o.op = .call { callee := .builtin .append, args := #[so, x], argTypes := #[42, 42] })
    (B : Nat) (v : Value) (l : List Bs) (hown : OwnD w B v l) (hs : a.eval so = v) (b : Nat) (d : Bs) (hx : a.eval x = .slice (some ⟨b, 0, none⟩) 1 1)
    (hr : w.heap[b]? = some (.cells (dgc d).toArray 24)) (hlen : l.length ≤ 4294967296) (hbase : B ≤ w.heap.size)
    (h : ∀ v' w', OwnD w' B v' (l ++ [d]) → w.grownBy w' v.ownBlock → (v'.ownBlock = v.ownBlock ∨ v'.ownBlock = some w.heap.size) → K (a.put o.dst v') w') : if Region.wanted o (yielded ops a.tmps) = true then Oper.wp Tryd.prog o a w K Q else EE :=
  step_pushN (dv (zeros 32)) 32 Tryd.underlying42 infoD rfl (by decide) dgc_len dgc_one hgd so x ho B v l hown hs b 0 1 1 [d] hx rfl (range_blk hr 0 _ (fun j v hv => by simpa using hv)) (by unfold maxLen; simp; omega) (by simp; omega) hbase h
set_option maxRecDepth 100000 in
theorem add_full (B g size : Nat) (v : Value) (front : List Bs) (p : Option Addr) (n c : Nat) (w : World) (h : IsLog w B g size v front) (hs : size = 1099511627776) :
    Calls Tryd.prog 49 #[.pointer (some ⟨g, 0, none⟩), .slice p n c] w fun e w' => e = .returned (.int .i64 (-1)) ∧ w = w' := by
  have c0 := h.c0
  subst hs
  clear h
  go_enter Tryd.func49, Tryd.ntmps49
  go_wp2_with fail
  go_ret
  exact ⟨rfl, rfl⟩
theorem Hs.modG {hf : Bs → Bs} {a w : World} {g : Nat} {z : Int} (h : Hs hf a) (m : Mod [g] a w) (hg : a.cell? ⟨g, 0, none⟩ = some (.int .i64 z)) : Hs hf w := by
  refine ⟨Tab.mod m h.t (fun hx => ?_), h.eq⟩
  rw [List.mem_singleton] at hx
  have h0 := h.t 0 _ rfl
  rw [Nat.add_zero, hx, hg] at h0
  simp [V32] at h0
theorem own_ne {w : World} {B g : Nat} {v : Value} {l : List Bs} {C : Array Value} (h : OwnD w B v l) (hg : w.heap[g]? = some (.cells C 113 (0, 0))) : v.ownBlock ≠ some g := by
  intro hx
  obtain ⟨C', hC⟩ := h.type g hx
  rw [hg] at hC
  injection hC with hC
  injection hC with _ h2 _
  exact absurd h2 (by decide)
theorem wraps_of (n : Nat) (h : n < 1099511627776) : IntKind.i64.wrap ((n : Int) + 1) = (n : Int) + 1 ∧ wrap64 ((n : Int) + 1) = (n : Int) + 1 ∧ wrap64 (n : Int) = (n : Int) ∧ IntKind.i64.wrap (n : Int) = (n : Int) := by
  refine ⟨wrI _ (by omega) (by omega), ?_, ?_, wrI _ (by omega) (by omega)⟩
  · unfold wrap64; omega
  · unfold wrap64; omega
/-- A log behind a leaf more. -/
structure Added (w : World) (B g : Nat) (size : Nat) (v : Value) (front : List Bs) (w' : World) : Prop where
  log : ∃ v', IsLog w' B g size v' front ∧ (v'.ownBlock = v.ownBlock ∨ ∃ b, v'.ownBlock = some b ∧ w.heap.size ≤ b)
  mod : Mod (g :: v.ownBlock.toList) w w'
set_option maxRecDepth 100000 in
set_option maxHeartbeats 2000000 in
theorem add_any {hf : Bs → Bs} (B g size : Nat) (v : Value) (front : List Bs) (p : Option Addr) (n c : Nat) (d : Bs) (w : World) (h : IsLog w B g size v front) (hs : size < 1099511627776) (hn : n = d.length) (hr : Rd V8 w p c d) (hd : d.length ≤ 4398046511104) (H : Hs hf w) (T : TabZ w) :
    Calls Tryd.prog 49 #[.pointer (some ⟨g, 0, none⟩), .slice p n c] w fun e w' => e = .returned (.int .i64 size) ∧ Added w B g (size + 1) v (addF hf size front (leafH hf d)) w' := by
  have c0 := h.c0
  have HIS := Lib.hid h
  have HH := Lib.hid H
  have HT := Lib.hid T
  have HLF := Lib.hid (leaf_any p c n d w hn hr H hd)
  have hD32 : (leafH hf d).length = 32 := H.len _
  obtain ⟨D, hD⟩ : ∃ D, D = leafH hf d := ⟨_, rfl⟩
  rw [← hD] at HLF hD32 ⊢
  have HD32 := Lib.hid hD32
  have HTL := Lib.hid (tones_le 41 size (by omega))
  have f1 : decide ((1099511627776 : Int) ≤ (size : Int)) = false := by simp; omega
  have HS := Lib.hid hs
  clear h H T hr hn hD hD32 hs hd
  go_enter Tryd.func49, Tryd.ntmps49
  go_wp2_with fail
  refine HLF.out.mono ?_
  rintro e w1 ⟨rfl, m1⟩
  have hS := storeNewD w1 D HD32.out
  have M2 := Lib.hid (m1.alloc (.cells (D.map V8).toArray 24))
  have HDB := Lib.hid (hp_new w1 (.cells (D.map V8).toArray 24) _ rfl)
  have c02 := (HIS.out.mod0 M2.out).c0
  have HTZ := Lib.hid (show Calls Tryd.prog 77 #[V64 (~~~UInt64.ofNat size)] (w1.alloc (.cells (D.map V8).toArray 24)) fun e w' => e = .returned (.int .i64 (tones size)) ∧ (w1.alloc (.cells (D.map V8).toArray 24)) = w' by
    have hs := HS.out
    rw [not_of size (by omega), ← ctz_tones size (by omega)]
    exact tz_any _ _ (by omega) (by omega) (HT.out.mod0 M2.out))
  obtain ⟨K, hK⟩ : ∃ K, K = tones size := ⟨_, rfl⟩
  rw [← hK] at HTZ HTL
  have HK := Lib.hid hK
  clear hK
  go_wp2_with fail
  refine HTZ.out.mono ?_
  rintro e w' ⟨rfl, rfl⟩
  obtain ⟨T, hT⟩ : ∃ T, T = w1.heap.size := ⟨_, rfl⟩
  have HTG := Lib.hid (show T ≠ g from by have h1 := HIS.out.lt; have h2 := m1.size; omega)
  have HTW := Lib.hid (show w.heap.size ≤ T from by have h2 := m1.size; omega)
  rw [← hT] at HDB ⊢
  have HI0 := Lib.hid (HIS.out.mod0 M2.out)
  have HM0 := Lib.hid (M2.out.mono (S' := [g]) (by simp))
  clear hS m1 c0 c02 hT
  go_wp2_with fail
  go_loopw [21] (fun iv wr => ∃ (i nn : Nat) (l : List Bs) (dd : Bs) (u : Value), i + tones nn = K ∧ iv = .int .i64 i ∧ l.length = ones nn ∧ nn ≤ size ∧ All32 l ∧ dd.length = 32 ∧ addF hf nn l dd = addF hf size front D ∧ wr.heap[g]? = some (.cells #[.int .i64 size, u] 113 (0, 0)) ∧ OwnD wr B u l ∧ u.ownBlock = v.ownBlock ∧ wr.heap[T]? = some (.cells (dd.map V8).toArray 24 (0, 0)) ∧ Mod [g] w wr) (fun iv _ => K - (intOf iv).toNat)
  case atStart => exact ⟨0, size, front, D, v, by rw [Nat.zero_add]; exact HK.out.symm, rfl, HIS.out.cnt, Nat.le_refl _, HIS.out.a32, HD32.out, rfl, HI0.out.blk, HI0.out.own, rfl, HDB.out, HM0.out⟩
  case round =>
    clear HI0 HM0 HDB HTZ
    obtain ⟨i, nn, l, dd, u, hik, rfl, hlen, hnn, a32, hd32, hadd, hgb, hown, hob, htb, hm⟩ := hrel
    have HLEN := Lib.hid hlen
    have HNN := Lib.hid hnn
    have HA := Lib.hid a32
    have HD := Lib.hid hd32
    have HADD := Lib.hid hadd
    have HGB := Lib.hid hgb
    have HOWN := Lib.hid hown
    have HOB := Lib.hid hob
    have HTB := Lib.hid htb
    have HM := Lib.hid hm
    have HIK := Lib.hid hik
    obtain ⟨pu, cu, hu, hrd, _⟩ := hown.rd
    subst hu
    have HRD := Lib.hid hrd
    have c0 : wr.cell? ⟨g, 0, none⟩ = some (.int .i64 size) := by rw [cell_blk hgb]; rfl
    have c1 : wr.cell? ⟨g, 1, none⟩ = some (.slice pu l.length cu) := by rw [cell_blk hgb]; rfl
    have hl41 : l.length ≤ 41 := by rw [hlen]; exact ones_le 41 nn (by have := HS.out; omega)
    clear hlen hnn a32 hd32 hadd hgb hown hob htb hm hrd hik
    by_cases hlt : i < K
    · have hodd : nn % 2 = 1 := by
        have h := HIK.out
        rw [tones] at h
        by_cases h1 : nn % 2 = 1
        · exact h1
        · rw [if_neg h1] at h; omega
      have hne : l ≠ [] := by
        rintro rfl
        have h := HLEN.out
        rw [ones_eq] at h
        simp at h
        omega
      obtain ⟨q, x, hqx⟩ : ∃ q x, l = q ++ [x] := ⟨l.dropLast, l.getLast hne, (List.dropLast_concat_getLast hne).symm⟩
      obtain ⟨m, hm⟩ : ∃ m, m = q.length := ⟨_, rfl⟩
      have hlm : l.length = m + 1 := by rw [hqx, hm]; simp
      have hx : l[m]? = some x := by rw [hqx, hm]; simp
      have hx32 : x.length = 32 := HA.out x (List.mem_of_getElem? hx)
      obtain ⟨b, o, rfl, _⟩ := HRD.out.elem dgc_len m x hx
      have hL1 := loadD_at (w := wr.drew) (HRD.out.mod0 (Mod.refl [] wr).drew) (i := m) x hx hx32
      have hL2 := loadDv (w := wr.drew) dd HD.out (hp_drew HTB.out)
      have hcap := HRD.out.le
      rw [hlm] at c1 hcap hl41
      have f2 : (0 : Int) ≤ (m : Int) := by omega
      have f3 : (m : Int) < (m : Int) + 1 := by omega
      have f4 : (m : Int) < ((m + 1 : Nat) : Int) := by omega
      have f5 : (m : Int) ≤ (cu : Int) := by omega
      have HX := Lib.hid hx32
      have HQX := Lib.hid hqx
      have HMQ := Lib.hid hm
      have HLM := Lib.hid hlm
      have HODD := Lib.hid hodd
      clear hqx hm hlm hx hx32 hodd hne
      go_wp2_with fail
      go_region_law (go_simp; go_at_call 17; refine (node_any x dd HX.out HD.out _ (HH.out.modG HM.out.drew HIS.out.c0)).mono ?_
                     rintro _ w6 ⟨rfl, m6⟩
                     have hS6 := storeDv (nodeH hf x dd) (HH.out.len _) (m6.get0 (hp_drew HTB.out)) (by simp [HD.out]))
      all_goals
        obtain ⟨w7, hw7⟩ : ∃ w7, w7 = w6.setRow T ((nodeH hf x dd).map V8).toArray := ⟨_, rfl⟩
        rw [← hw7] at hS6 ⊢
        have m7 : Mod [T] wr w7 := by rw [hw7]; exact (((Mod.refl [] wr).drew.trans0 m6).mono (by simp)).setRow (.inl (by simp)) _
        have hTv : ∀ z, v.ownBlock = some z → z ≠ T := fun z hz => by have h1 := HIS.out.own.lt z hz; have h2 := HTW.out; omega
        have g7 := m7.get HGB.out (by simpa using HTG.out.symm)
        have t7 : w7.heap[T]? = some (.cells ((nodeH hf x dd).map V8).toArray 24 (0, 0)) := by rw [hw7]; exact hp_setRow (m6.get0 (hp_drew HTB.out))
        have o7 := HOWN.out.mod m7 (fun y hy => by rw [List.mem_singleton.1 hy, HOB.out]; exact fun h => hTv _ h rfl)
        have c17 : w7.cell? ⟨g, 1, none⟩ = some (.slice (some ⟨b, o, none⟩) (m + 1) cu) := by rw [cell_blk g7, ← HLM.out]; rfl
        have f17 : w7.frozen? ⟨g, 1, none⟩ = false := frozen_blk g7 1
        have M7 : Mod [g] w w7 := by
          rw [hw7]
          exact (HM.out.drew.trans0 m6).setRow (.inr HTW.out) _
        have G7 := Lib.hid g7
        have T7 := Lib.hid t7
        have O7 := Lib.hid o7
        have HM7 := Lib.hid M7
        have hML : m ≤ l.length := by have := HLM.out; omega
        have hK41 := HTL.out
        clear hw7 m6 m7 g7 t7 o7 M7 hS6 hL1 hL2 c0 c1 hTv
        go_wp2_with fail
        go_roundw
        case rel =>
          obtain ⟨p9, c9, e9, ho9⟩ := O7.out.front dgc_len m hML
          injection e9 with e91 _ e92
          subst e91 e92
          have hq : l.take m = q := by rw [HQX.out, HMQ.out, List.take_left' rfl]
          have hl9 := HLEN.out
          have hlm := HLM.out
          have hone := ones_eq nn
          have hodd := HODD.out
          have hton := HIK.out
          rw [tones, if_pos hodd] at hton
          rw [hq] at ho9
          have hs9 := hp_sc (j := 1) (v := .slice (some ⟨b, o, none⟩) m cu) G7.out
          refine ⟨i + 1, nn / 2, q, nodeH hf x dd, .slice (some ⟨b, o, none⟩) m cu, by omega, by go_num, by have := HMQ.out; omega, by have := HNN.out; omega, fun y hy => HA.out y (by rw [HQX.out]; simp [hy]), HH.out.len _, ?_, hs9, ?_, ?_, ?_, HM7.out.setCell (.inl (by simp)) _⟩
          · rw [← HADD.out]
            conv => rhs; rw [addF]
            rw [if_pos hodd, HQX.out, List.dropLast_concat, List.getLast?_concat, Option.getD_some]
          · refine ho9.mod ((Mod.refl [g] w7).setCell (.inl (by simp)) _) (fun y hy => ?_)
            rw [List.mem_singleton.1 hy]
            have h1 := HOB.out
            intro hz
            exact HIS.out.ne (by rw [← h1]; exact hz)
          · rw [← HOB.out]; rfl
          · exact ((Mod.refl [g] w7).setCell (.inl (by simp)) _).get T7.out (by simpa using HTG.out)
        case measure => simp [intOf]; omega
    · have hK : i = K := by have := HIK.out; omega
      have hev : ¬ nn % 2 = 1 := by
        intro h1
        have h := HIK.out
        rw [tones, if_pos h1] at h
        omega
      have hadd : addF hf size front D = l ++ [dd] := by
        rw [← HADD.out, addF, if_neg hev]
      have HADE := Lib.hid hadd
      rw [hadd]
      have hd : decide ((i : Int) < (K : Int)) = false := by simp; omega
      clear hK hev hadd
      go_wp2_with fail
      have hL3 := loadDv (w := wr.drew) dd HD.out (hp_drew HTB.out)
      have hBS := run_buildD wr.drew dd HD.out
      have m9 := Lib.hid (((Mod.refl [] wr).alloc (.cells (dgc dd).toArray 24)).drew)
      have c1b : (wr.alloc (.cells (dgc dd).toArray 24)).cell? ⟨g, 1, none⟩ = some (.slice pu l.length cu) := cell_mod0 ((Mod.refl [] wr).alloc (.cells (dgc dd).toArray 24)) c1
      have HO9 := Lib.hid (HOWN.out.mod0 m9.out)
      have hB9 : B ≤ ((wr.alloc (.cells (dgc dd).toArray 24)).drew).heap.size := by
        have h1 := HIS.out.base
        have h2 := HIS.out.lt
        have h3 := HM.out.size
        have h4 := m9.out.size
        omega
      have HG9 := Lib.hid (m9.out.get0 HGB.out)
      have hl42 : l.length ≤ 4294967296 := by omega
      have HNG := Lib.hid (show some g ≠ (Value.slice pu l.length cu).ownBlock from fun hx => HIS.out.ne (by rw [← HOB.out]; exact hx.symm))
      clear c0
      go_region_law (refine appD3 rfl (.tmp 52) (.tmp 54) rfl B (.slice pu l.length cu) l HO9.out rfl wr.heap.size dd rfl (hp_drew (hp_new wr _ _ rfl)) hl42 hB9 ?_
                     intro v4 w4 ho4 hg4 h4
                     have G4 := Lib.hid ((hg4.block g (lt_of_block HG9.out) HNG.out).trans HG9.out)
                     obtain ⟨p4, c4, e4, _, _⟩ := ho4.rd
                     subst e4
                     have c14 := (cell_blk G4.out 1)
                     have f14 := (frozen_blk G4.out 1)
                     have HO4 := Lib.hid ho4
                     have HG4 := Lib.hid hg4
                     have HB4 := Lib.hid h4
                     clear ho4 hg4 h4)
      all_goals
        obtain ⟨u4, hu4⟩ : ∃ u4, u4 = Value.slice p4 (l ++ [dd]).length c4 := ⟨_, rfl⟩
        have hu4' : Value.slice p4 (l.length + 1) c4 = u4 := by rw [hu4]; simp
        rw [← hu4] at HO4 HB4
        rw [hu4']
        have ho1 : u4.oneCell' = true := by rw [hu4]; rfl
        have hne4 := own_ne HO4.out G4.out
        obtain ⟨w5, hw5⟩ : ∃ w5, w5 = w4.setCell ⟨g, 1, none⟩ u4 := ⟨_, rfl⟩
        rw [← hw5]
        have g5 : w5.heap[g]? = some (.cells #[.int .i64 size, u4] 113 (0, 0)) := by
          rw [hw5]; exact hp_sc (j := 1) (v := u4) G4.out
        have c05 : w5.cell? ⟨g, 0, none⟩ = some (.int .i64 size) := by rw [cell_blk g5]; rfl
        have f05 : w5.frozen? ⟨g, 0, none⟩ = false := frozen_blk g5 0
        have g6 := hp_sc (j := 0) (v := .int .i64 ((size : Int) + 1)) g5
        have c06 : (w5.setCell ⟨g, 0, none⟩ (.int .i64 ((size : Int) + 1))).cell? ⟨g, 0, none⟩ = some (.int .i64 ((size : Int) + 1)) := by rw [cell_blk g6]; rfl
        obtain ⟨wi, wj, wk, wl⟩ := wraps_of size HS.out
        have M5 : Mod (g :: v.ownBlock.toList) w w5 := by
          rw [hw5]
          have k1 : Mod (g :: v.ownBlock.toList) w wr := HM.out.mono (S' := g :: v.ownBlock.toList) (fun x hx => .inl (by rw [List.mem_singleton.1 hx]; exact List.mem_cons_self ..))
          exact ((k1.trans0 m9.out).of_grown HG4.out (fun z hz => .inl (List.mem_cons_of_mem _ (by rw [← HOB.out, hz]; simp)))).setCell (.inl (List.mem_cons_self ..)) _
        have o5 : OwnD w5 B u4 (l ++ [dd]) := by
          rw [hw5]
          exact HO4.out.mod ((Mod.refl [g] w4).setCell (.inl (by simp)) _) (fun y hy => by rw [List.mem_singleton.1 hy]; exact hne4)
        have G6 := Lib.hid g6
        have HM5 := Lib.hid M5
        have HO5 := Lib.hid o5
        have HNE := Lib.hid hne4
        have HU := Lib.hid hu4
        clear g5 g6 M5 o5 c14 f14 hw5 hBS c1 c1b hL3 hne4 hu4 hu4'
        have K5 := Lib.hid (show Mod [g] w5 (w5.setCell ⟨g, 0, none⟩ (.int .i64 ((size : Int) + 1))) from (Mod.refl [g] w5).setCell (.inl (by simp)) _)
        have K6 := Lib.hid (show Mod (g :: v.ownBlock.toList) w (w5.setCell ⟨g, 0, none⟩ (.int .i64 ((size : Int) + 1))) from HM5.out.setCell (.inl (List.mem_cons_self ..)) _)
        go_wp2_with fail
        go_ret
        refine ⟨rfl, ?_⟩
        rw [HADE.out]
        refine ⟨⟨u4, ⟨G6.out, HIS.out.base, HO5.out.mod K5.out (fun y hy => by rw [List.mem_singleton.1 hy]; exact HNE.out), ?_, ?_, Nat.succ_le_of_lt HS.out⟩, ?_⟩, K6.out⟩
        · intro y hy
          rcases List.mem_append.1 hy with hy | hy
          · exact HA.out y hy
          · rw [List.mem_singleton.1 hy]; exact HD.out
        · have h := ones_succ (hf := hf) size front D HIS.out.cnt
          rw [HADE.out] at h
          exact h
        · rcases HB4.out with h | h
          · exact .inl (h.trans HOB.out)
          · refine .inr ⟨_, h, ?_⟩
            exact Nat.le_trans HM.out.size m9.out.size
end Go.Proofs.YtbbobpjcbnfpfaaDoor
