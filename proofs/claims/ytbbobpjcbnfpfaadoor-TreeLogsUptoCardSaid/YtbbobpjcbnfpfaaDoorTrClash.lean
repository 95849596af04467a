/- clash of causewaylaw04: two unlike texts of one digest are found. Conditions: the table of the steps lies in its variable; fewer than 2^46 bytes a text, at most 2^32 texts. -/
import Derived.Test.YtbbobpjcbnfpfaaDoorTrAwake
import Derived.Test.YtbbobpjcbnfpfaaDoorLawLib
import Derived.Deep.QuietTactic
import Derived.BigQuiet
namespace Go.Proofs.YtbbobpjcbnfpfaaDoor
open Go.RowKit
attribute [local go_sem high] one8 st8 cm8 b_and8 b_and8r b_and8l b_or8 b_or8r b_or8l b_xor8 b_xor8r b_xor8l b_andNot8 b_andNot8r b_andNot8l b_add8 b_add8r b_add8l b_sub8 b_sub8r b_sub8l b_mul8 b_mul8r b_mul8l b_eql8 b_eql8r b_eql8l b_neq8 b_neq8r b_neq8l b_lss8 b_lss8r b_lss8l b_leq8 b_leq8r b_leq8l b_gtr8 b_gtr8r b_gtr8l b_geq8 b_geq8r b_geq8l b_quo8r b_rem8r b_shl8r b_shr8r b_shl8l b_shr8l u_xor8 g_eql8 g_neq8 g_eql8' g_neq8' one32 st32 cm32 b_and32 b_and32r b_and32l b_or32 b_or32r b_or32l b_xor32 b_xor32r b_xor32l b_andNot32 b_andNot32r b_andNot32l b_add32 b_add32r b_add32l b_sub32 b_sub32r b_sub32l b_mul32 b_mul32r b_mul32l b_eql32 b_eql32r b_eql32l b_neq32 b_neq32r b_neq32l b_lss32 b_lss32r b_lss32l b_leq32 b_leq32r b_leq32l b_gtr32 b_gtr32r b_gtr32l b_geq32 b_geq32r b_geq32l b_quo32r b_rem32r b_shl32r b_shr32r b_shl32l b_shr32l u_xor32 g_eql32 g_neq32 g_eql32' g_neq32' one64 st64 cm64 b_and64 b_and64r b_and64l b_or64 b_or64r b_or64l b_xor64 b_xor64r b_xor64l b_andNot64 b_andNot64r b_andNot64l b_add64 b_add64r b_add64l b_sub64 b_sub64r b_sub64l b_mul64 b_mul64r b_mul64l b_eql64 b_eql64r b_eql64l b_neq64 b_neq64r b_neq64l b_lss64 b_lss64r b_lss64l b_leq64 b_leq64r b_leq64l b_gtr64 b_gtr64r b_gtr64l b_geq64 b_geq64r b_geq64l b_quo64r b_rem64r b_shl64r b_shr64r b_shl64l b_shr64l u_xor64 g_eql64 g_neq64 g_eql64' g_neq64' c_u8_u8 c_u8_u32 c_u8_u64 c_i_u8 c_u32_u8 c_u32_u32 c_u32_u64 c_i_u32 c_u64_u8 c_u64_u32 c_u64_u64 c_i_u64 c_u8_i c_u32_i
attribute [local go_sem ↓] ce8 ce32 ce64
attribute [local go_sem ↓] sliced_slp loadO26 storeO26 buildSlO42
/-- Two of them clash. -/
def Bad (hf : Bs → Bs) (ys : List SlR) (i k : Nat) : Prop := ∃ a b : SlR, ys[i]? = some a ∧ ys[k]? = some b ∧ a.d ≠ b.d ∧ hf a.d = hf b.d
theorem bad_of {hf : Bs → Bs} {ys : List SlR} (h : Clash hf (ds ys)) : ∃ i k, k < i ∧ i < ys.length ∧ Bad hf ys i k := by
  obtain ⟨a, ha, b, hb, hne, he⟩ := h
  obtain ⟨x, hx, rfl⟩ := List.mem_map.1 ha
  obtain ⟨y, hy, rfl⟩ := List.mem_map.1 hb
  obtain ⟨i, hi⟩ := List.mem_iff_getElem?.1 hx
  obtain ⟨k, hk⟩ := List.mem_iff_getElem?.1 hy
  have hil := (List.getElem?_eq_some_iff.1 hi).1
  have hkl := (List.getElem?_eq_some_iff.1 hk).1
  rcases Nat.lt_trichotomy i k with h | h | h
  · exact ⟨k, i, h, hkl, y, x, hk, hi, fun e => hne e.symm, he.symm⟩
  · subst h
    rw [hi] at hk
    injection hk with hk
    subst hk
    exact absurd rfl hne
  · exact ⟨i, k, h, hil, x, y, hi, hk, hne, he⟩
/-- What is known of the texts. -/
structure Ts (w : World) (p : Option Addr) (c : Nat) (ys : List SlR) : Prop where
  rd : Rd SlR.v w p c ys
  each : ∀ y ∈ ys, Rd V8 w y.p y.cap y.d
  small : ∀ y ∈ ys, y.d.length ≤ 70368744177664
  len : ys.length ≤ 4294967296
theorem Ts.mod0 {a w : World} {p : Option Addr} {c : Nat} {ys : List SlR} (h : Ts a p c ys) (m : Mod [] a w) : Ts w p c ys := ⟨h.rd.mod0 m, fun y hy => (h.each y hy).mod0 m, h.small, h.len⟩
theorem pushD {ops : Array Oper} {rest : List Oper} {o : Oper} {a : Act} {Q : Exit → Act → World → Prop} {w : World} (hgd : o.guard = none) (s x : Operand)
    (ho : o.op = .call { callee := .builtin .append, args := #[s, x], argTypes := #[42, 42] }) (B : Nat) (v : Value) (l : List Bs) (hown : OwnD w B v l) (hs : a.eval s = v) (g : Nat) (d : Bs) (hx : a.eval x = .slice (some ⟨g, 0, none⟩) 1 1)
    (hg : w.heap[g]? = some (.cells (dgc d).toArray 24)) (hl : l.length ≤ 4294967296) (hbase : B ≤ w.heap.size)
    (h : ∀ v' w', OwnD w' B v' (l ++ [d]) → w.grownBy w' v.ownBlock → wpList Tryd.prog ops Q rest (a.put o.dst v') w') : wpList Tryd.prog ops Q (o :: rest) a w :=
  wpList_pushN (dv (zeros 32)) 32 Tryd.underlying42 infoD rfl (by decide) dgc_len dgc_one hgd s x ho B v l hown hs g 0 1 1 [d] hx rfl (range_blk hg 0 _ (fun j v hv => by simpa using hv)) (by unfold maxLen; simp; omega) (by simp; omega) hbase h
theorem froz_app {P : Program} {ops : Array Oper} {rest : List Oper} {o : Oper} {a : Act} {w : World} {Q : Exit → Act → World → Prop} (args : Array Operand) (ats : Array TypeId) (ho : o.op = .call { callee := .builtin .append, args := args, argTypes := ats })
    (h : Froz (wpList P ops Q (o :: rest) a w)) : wpList P ops Q (o :: rest) a w := h
set_option maxRecDepth 100000 in
set_option maxHeartbeats 1000000 in
theorem clash_any {hf : Bs → Bs} (ys : List SlR) (p : Option Addr) (c n : Nat) (w : World) (hn : n = ys.length) (h : Ts w p c ys) (hc : Clash hf (ds ys)) (H : Hs hf w) :
    Calls Tryd.prog 38 #[.slice p n c] w fun e w' => e = .returned (.bool true) ∧ Mod [] w w' := by
  obtain ⟨bi, bk, hbk, hbi, hbad⟩ := bad_of hc
  have HBAD := Lib.hid hbad
  have HH := Lib.hid H
  have HT := Lib.hid h
  have hn4 := h.len
  have hcap := h.rd.le
  rw [← hn] at hbi hn4 hcap
  have HN := Lib.hid hn
  clear h hc H hbad hn
  go_enter Tryd.func38, Tryd.ntmps38
  go_wp2_with fail
  go_loopw [3, 4, 5] (fun v iv u5 wr => ∃ (k : Nat) (vl : Value), k ≤ n ∧ iv = .int .i64 k ∧ v = vl ∧ OwnD wr w.heap.size vl (((ds ys).take k).map hf) ∧ Mod [] w wr) (fun _ iv _ _ => n - (intOf iv).toNat)
  case atStart => exact ⟨0, _, by omega, rfl, rfl, OwnN.nil _ _ _ _ _, Mod.refl _ _⟩
  case round =>
    obtain ⟨k, vl, hk, rfl, rfl, hown, hm⟩ := hrel
    have HO := Lib.hid hown
    have HM := Lib.hid hm
    have hll : (((ds ys).take k).map hf).length = k := by have := HN.out; simp; omega
    obtain ⟨pv, cv, rfl, hrd, _⟩ := hown.rd
    rw [hll]
    have HRD := Lib.hid hrd
    have HLL := Lib.hid hll
    clear hown hm hrd hll
    by_cases hlt : k < n
    · obtain ⟨y, hy⟩ : ∃ y, ys[k]? = some y := ⟨ys[k]'(by have := HN.out; omega), List.getElem?_eq_getElem _⟩
      have hty := HT.out.mod0 HM.out
      obtain ⟨b1, o1, rfl, hc1⟩ := hty.rd.cell k y hy
      have HYE := Lib.hid (hty.each y (List.mem_of_getElem? hy))
      have hysm := hty.small y (List.mem_of_getElem? hy)
      unfold SlR.v at hc1
      have HY := Lib.hid hy
      have f1 : (0 : Int) ≤ (k : Int) := by omega
      have f2 : (k : Int) < (n : Int) := by omega
      clear hy hty
      go_wp2_with fail
      refine ((HH.out.mod0 HM.out).sum y.p y.cap _ y.d rfl HYE.out hysm).mono ?_
      rintro e w5 ⟨rfl, m5⟩
      have hdl := HH.out.len y.d
      obtain ⟨D, hD⟩ : ∃ D, D = hf y.d := ⟨_, rfl⟩
      rw [← hD] at hdl ⊢
      have HD := Lib.hid hD
      have hS := storeNewD w5 D hdl
      have hL := loadDv D hdl (hp_new w5 (.cells (D.map V8).toArray 24) _ rfl)
      have hBS := run_buildD (w5.alloc (.cells (D.map V8).toArray 24)) D hdl
      have HM5 := Lib.hid ((HM.out.trans0 m5).alloc (.cells (D.map V8).toArray 24))
      have HO5 := Lib.hid (HO.out.mod (m5.alloc (.cells (D.map V8).toArray 24)) (by simp))
      clear hD hdl m5 hc1
      go_wp2_with (at_builtin; with_reducible refine froz_app _ _ rfl ?_)
      unfold Froz
      have hown := HO5.out
      rw [HLL.out] at hown
      refine pushD rfl _ _ rfl w.heap.size _ (((ds ys).take k).map hf) (hown.alloc _) rfl (w5.heap.size + 1) D rfl (hp_new _ _ _ (by simp)) (by rw [HLL.out]; omega) (by have := HM5.out.size; simp at this ⊢; omega) ?_
      intro v8 w8 ho8 hg8
      have HO8 := Lib.hid (show OwnD w8 w.heap.size v8 (((ds ys).take (k + 1)).map hf) from by
        have e : (ds ys).take (k + 1) = (ds ys).take k ++ [y.d] := by rw [List.take_add_one, List.getElem?_map, HY.out]; rfl
        rw [e, List.map_append, List.map_singleton, ← HD.out]
        exact ho8)
      have HM8 := Lib.hid ((HM5.out.alloc _).of_grown hg8 (fun g hg => .inr (hown.row g hg)))
      clear ho8 hg8 hown hS hL hBS
      go_wp2_with fail
      go_roundw
      case rel => exact ⟨k + 1, _, by omega, by go_num, rfl, HO8.out, HM8.out⟩
      case measure => simp [intOf]; omega
    · have hkk : k = n := by omega
      have hd : decide ((k : Int) < (n : Int)) = false := by simp; omega
      have hrd2 : RdD wr pv cv ((ds ys).map hf) := by
        have h := HRD.out
        rwa [hkk, List.take_of_length_le (by have := HN.out; simp; omega)] at h
      have HR2 := Lib.hid hrd2
      have HK := Lib.hid hkk
      clear hrd2 hkk HRD HO
      go_wp2_with fail
      obtain ⟨wn, hwn⟩ : ∃ wn, wn = wr := ⟨_, rfl⟩
      rw [← hwn] at HM HR2 ⊢
      clear hwn
      go_loopw [6, 7] (fun iv u7 wr => ∃ i : Nat, i ≤ n ∧ iv = .int .i64 i ∧ Hid (∀ i' k', i' < i → k' < i' → ¬ Bad hf ys i' k') ∧ Mod [] wn wr) (fun iv _ _ => n - (intOf iv).toNat)
      case atStart => exact ⟨0, by omega, rfl, Lib.hid (fun i' k' h => by omega), Mod.refl _ _⟩
      case round =>
        obtain ⟨i, hi, rfl, HI, hmi⟩ := hrel
        have HMI := Lib.hid hmi
        clear hmi
        by_cases hli : i < n
        · have hdi : decide ((i : Int) < (n : Int)) = true := by simp; omega
          go_wp2_with fail
          obtain ⟨wo, hwo⟩ : ∃ wo, wo = wr := ⟨_, rfl⟩
          rw [← hwo] at HMI ⊢
          clear hwo
          go_loopw [7] (fun kv wr => ∃ k : Nat, k ≤ i ∧ kv = .int .i64 k ∧ Hid (∀ k', k' < k → ¬ Bad hf ys i k') ∧ Mod [] wn wr) (fun kv _ => i - (intOf kv).toNat)
          case atStart => exact ⟨0, by omega, rfl, Lib.hid (fun k' h => by omega), HMI.out⟩
          case round =>
            obtain ⟨j, hj, rfl, HJ, hmj⟩ := hrel
            have HMJ := Lib.hid hmj
            clear hmj
            by_cases hlj : j < i
            · obtain ⟨a, ha⟩ : ∃ a, ys[i]? = some a := ⟨ys[i]'(by have := HN.out; omega), List.getElem?_eq_getElem _⟩
              obtain ⟨b, hb⟩ : ∃ b, ys[j]? = some b := ⟨ys[j]'(by have := HN.out; omega), List.getElem?_eq_getElem _⟩
              have MJ := HM.out.trans0 HMJ.out
              have hty := HT.out.mod0 MJ
              obtain ⟨b1, o1, rfl, hc1⟩ := hty.rd.cell i a ha
              obtain ⟨_, _, e2, hc2⟩ := hty.rd.cell j b hb
              simp only [Option.some.injEq, Addr.mk.injEq] at e2
              obtain ⟨rfl, rfl, _⟩ := e2
              have hsa := fun m => str_rd ((hty.each a (List.mem_of_getElem? ha)).mod0 ((Mod.refl [] wr).drewN m)) _ rfl
              have hsb := fun m => str_rd ((hty.each b (List.mem_of_getElem? hb)).mod0 ((Mod.refl [] wr).drewN m)) _ rfl
              have hra := HR2.out.mod0 HMJ.out
              obtain ⟨b3, o3, rfl, _⟩ := hra.elem dgc_len i (hf a.d) (by simp [ha])
              have hLa := fun m => loadD_at (hra.mod0 ((Mod.refl [] wr).drewN m)) (i := i) (hf a.d) (by simp [ha]) (HH.out.len _)
              have hLb := fun m => loadD_at (hra.mod0 ((Mod.refl [] wr).drewN m)) (i := j) (hf b.d) (by simp [hb]) (HH.out.len _)
              unfold SlR.v at hc1 hc2
              have HA := Lib.hid ha
              have HB := Lib.hid hb
              have f1 : (0 : Int) ≤ (i : Int) := by omega
              have f2 : (i : Int) < (n : Int) := by omega
              have f3 : (0 : Int) ≤ (j : Int) := by omega
              have f4 : (j : Int) < (n : Int) := by omega
              have f5 : (i : Int) < (k : Int) := by have := HK.out; omega
              have f6 : (j : Int) < (k : Int) := by have := HK.out; omega
              have hE := fun w => eqD w (hf a.d) (hf b.d) (HH.out.len _) (HH.out.len _)
              have hG := eqGuardD
              clear ha hb hty hra MJ
              by_cases hfe : hf a.d = hf b.d
              · have hbe : (hf a.d == hf b.d) = true := by simp [hfe]
                have HFE := Lib.hid hfe
                clear hfe
                go_wp2_with fail
                go_quiet (fail)
                go_wp2_with fail
                case roundEnd =>
                  have hq : (!a.d == b.d) = false := by assumption
                  have hse : a.d = b.d := by simpa using hq
                  go_roundw
                  case rel =>
                    refine ⟨j + 1, by omega, by go_num, Lib.hid (fun k' hk' => ?_), HMJ.out.drewN _⟩
                    rcases Nat.lt_or_ge k' j with h1 | h1
                    · exact HJ.out k' h1
                    · obtain rfl : k' = j := by omega
                      rintro ⟨x, y, hx, hy, hne, _⟩
                      rw [HA.out] at hx
                      rw [HB.out] at hy
                      injection hx with hx
                      injection hy with hy
                      subst hx hy
                      exact hne hse
                  case measure => simp [intOf]; omega
                go_ret
                exact ⟨rfl, HM.out.trans0 (HMJ.out.drewN _)⟩
              · have hbe : (hf a.d == hf b.d) = false := by simp [hfe]
                have HFE := Lib.hid hfe
                clear hfe
                go_wp2_with fail
                go_quiet (fail)
                go_wp2_with fail
                go_roundw
                case rel =>
                  refine ⟨j + 1, by omega, by go_num, Lib.hid (fun k' hk' => ?_), HMJ.out.drewN _⟩
                  rcases Nat.lt_or_ge k' j with h1 | h1
                  · exact HJ.out k' h1
                  · obtain rfl : k' = j := by omega
                    rintro ⟨x, y, hx, hy, _, he⟩
                    rw [HA.out] at hx
                    rw [HB.out] at hy
                    injection hx with hx
                    injection hy with hy
                    subst hx hy
                    exact HFE.out he
                case measure => simp [intOf]; omega
            · have hdj : decide ((j : Int) < (i : Int)) = false := by simp; omega
              go_wp2_with fail
              go_roundw
              case rel =>
                refine ⟨i + 1, by omega, by go_num, Lib.hid (fun i' k' hi' hk' => ?_), HMJ.out⟩
                rcases Nat.lt_or_ge i' i with h1 | h1
                · exact HI.out i' k' h1 hk'
                · obtain rfl : i' = i := by omega
                  exact HJ.out k' (by omega)
              case measure => simp [intOf]; omega
        · exact absurd HBAD.out (HI.out bi bk (by omega) hbk)
end Go.Proofs.YtbbobpjcbnfpfaaDoor
