/- back, write of the tree's laws. Conditions: at most 2^20 leaves. -/
import Derived.Test.YtbbobpjcbnfpfaaDoorTrLoan
namespace Go.Proofs.YtbbobpjcbnfpfaaDoor
open Go.RowKit
attribute [local go_sem high] one8 st8 cm8 b_and8 b_and8r b_and8l b_or8 b_or8r b_or8l b_xor8 b_xor8r b_xor8l b_andNot8 b_andNot8r b_andNot8l b_add8 b_add8r b_add8l b_sub8 b_sub8r b_sub8l b_mul8 b_mul8r b_mul8l b_eql8 b_eql8r b_eql8l b_neq8 b_neq8r b_neq8l b_lss8 b_lss8r b_lss8l b_leq8 b_leq8r b_leq8l b_gtr8 b_gtr8r b_gtr8l b_geq8 b_geq8r b_geq8l b_quo8r b_rem8r b_shl8r b_shr8r b_shl8l b_shr8l u_xor8 g_eql8 g_neq8 g_eql8' g_neq8' one32 st32 cm32 b_and32 b_and32r b_and32l b_or32 b_or32r b_or32l b_xor32 b_xor32r b_xor32l b_andNot32 b_andNot32r b_andNot32l b_add32 b_add32r b_add32l b_sub32 b_sub32r b_sub32l b_mul32 b_mul32r b_mul32l b_eql32 b_eql32r b_eql32l b_neq32 b_neq32r b_neq32l b_lss32 b_lss32r b_lss32l b_leq32 b_leq32r b_leq32l b_gtr32 b_gtr32r b_gtr32l b_geq32 b_geq32r b_geq32l b_quo32r b_rem32r b_shl32r b_shr32r b_shl32l b_shr32l u_xor32 g_eql32 g_neq32 g_eql32' g_neq32' one64 st64 cm64 b_and64 b_and64r b_and64l b_or64 b_or64r b_or64l b_xor64 b_xor64r b_xor64l b_andNot64 b_andNot64r b_andNot64l b_add64 b_add64r b_add64l b_sub64 b_sub64r b_sub64l b_mul64 b_mul64r b_mul64l b_eql64 b_eql64r b_eql64l b_neq64 b_neq64r b_neq64l b_lss64 b_lss64r b_lss64l b_leq64 b_leq64r b_leq64l b_gtr64 b_gtr64r b_gtr64l b_geq64 b_geq64r b_geq64l b_quo64r b_rem64r b_shl64r b_shr64r b_shl64l b_shr64l u_xor64 g_eql64 g_neq64 g_eql64' g_neq64' c_u8_u8 c_u8_u32 c_u8_u64 c_i_u8 c_u32_u8 c_u32_u32 c_u32_u64 c_i_u32 c_u64_u8 c_u64_u32 c_u64_u64 c_i_u64 c_u8_i c_u32_i
attribute [local go_sem ↓] ce8 ce32 ce64
attribute [local go_sem ↓] sliced_slp loadO26 storeO26
theorem Loan.mod0 {a w : World} {B m co : Nat} {po : Option Addr} {ys : List SlR} (h : Loan a B m po co ys) (k : Mod [] a w) : Loan w B m po co ys := by
  obtain ⟨ms, h1, h2, h3⟩ := h.mine
  exact ⟨h.own.mod0 k, ⟨ms, h1, k.get0 h2, fun y hy => ⟨(h3 y hy).1, (h3 y hy).2.mod0 k⟩⟩, h.held.mod0 k, h.le⟩
set_option maxRecDepth 100000 in
set_option maxHeartbeats 1000000 in
theorem back_any (xs : List SlR) (p : Option Addr) (c n : Nat) (w : World) (hn : n = xs.length) (h : Lv w p c xs) (hn4 : n ≤ 1048576) (B m co : Nat) (po : Option Addr) (ys : List SlR) (hL : Loan w B m po co ys) (hd : ds ys = ds xs) :
    Calls Tryd.prog 21 #[loanV m po co n, .slice p n c] w fun e w' => e = .returned (.bool true) ∧ Mod [] w w' := by
  have HV := Lib.hid h
  have HN := Lib.hid hn
  have HL := Lib.hid hL
  have HD := Lib.hid hd
  have hyl : ys.length = n := by
    have := congrArg List.length hd
    simp [ds] at *; omega
  have HYL := Lib.hid hyl
  clear h hn hL hd hyl
  unfold loanV
  go_enter Tryd.func21, Tryd.ntmps21
  go_wp2_with fail
  have hb0 : (w.alloc (.cells #[.slice (some ⟨m, 0, none⟩) (n + 9) (n + 9), .slice po n co, .int .i64 n] 35)).heap[w.heap.size]? = some (.cells #[.slice (some ⟨m, 0, none⟩) (n + 9) (n + 9), .slice po n co, .int .i64 n] 35) := hp_new w _ _ rfl
  have hm0 := (Mod.refl [] w).alloc (.cells #[.slice (some ⟨m, 0, none⟩) (n + 9) (n + 9), .slice po n co, .int .i64 n] 35)
  have HB0 := Lib.hid hb0
  have HM0 := Lib.hid hm0
  clear hb0 hm0
  go_loopw [5, 6] (fun iv u wr => ∃ i : Nat, i ≤ n ∧ iv = .int .i64 i ∧ wr.heap[w.heap.size]? = some (.cells #[.slice (some ⟨m, 0, none⟩) (n + 9) (n + 9), .slice po n co, .int .i64 n] 35) ∧ Mod [] w wr) (fun iv _ _ => n - (intOf iv).toNat)
  case atStart => exact ⟨0, by omega, rfl, HB0.out, HM0.out⟩
  case round =>
    obtain ⟨i, hi, rfl, hb, hm⟩ := hrel
    have HB := Lib.hid hb
    have HM := Lib.hid hm
    have hx0 : wr.cell? ⟨w.heap.size, 0, none⟩ = some (.slice (some ⟨m, 0, none⟩) (n + 9) (n + 9)) := by rw [cell_blk hb]; rfl
    have hx1 : wr.cell? ⟨w.heap.size, 1, none⟩ = some (.slice po n co) := by rw [cell_blk hb]; rfl
    clear hb hm HB0 HM0
    by_cases hlt : i < n
    · obtain ⟨x, hxk⟩ : ∃ x, xs[i]? = some x := ⟨xs[i]'(by have := HN.out; omega), List.getElem?_eq_getElem _⟩
      obtain ⟨y, hyk⟩ : ∃ y, ys[i]? = some y := ⟨ys[i]'(by have := HYL.out; omega), List.getElem?_eq_getElem _⟩
      have hyx : y.d = x.d := by
        have h1 := congrArg (·[i]?) HD.out
        simpa [ds, hyk, hxk] using h1
      have hxs := HV.out.small x (List.mem_of_getElem? hxk)
      obtain ⟨b, o, rfl, hcr⟩ := (HV.out.rd.mod0 HM.out).cell i x hxk
      unfold SlR.v at hcr
      have hxr := (HV.out.each x (List.mem_of_getElem? hxk)).mod0 HM.out
      have hL := HL.out.mod0 HM.out
      obtain ⟨g, hye, _, hgb⟩ := of_held hL.held i y hyk
      rw [hyx] at hye hgb
      obtain ⟨ms, _, hmine, _⟩ := hL.mine
      have hcm : wr.cell? ⟨m, i, none⟩ = some (.slice (some ⟨g, 0, none⟩) x.d.length (x.d.length + 70)) := by
        rw [cell_blk hmine, List.getElem?_toArray, mine_cell i y hyk, hye]
        rfl
      obtain ⟨bo, oo, rfl, hco⟩ := hL.own.cell i (wide 70 y) (by rw [List.getElem?_map, hyk]; rfl)
      have hwv : SlR.v (wide 70 y) = .slice (some ⟨g, 0, none⟩) (x.d.length + 70) (x.d.length + 70) := by rw [hye]; simp [SlR.v, wide, marks_length]
      rw [hwv] at hco
      have hkq := fun (t : Nat) => kept_q g (x.d.length + 70) x.d x.p x.cap x.d (x.d.length + 70) rfl rfl (wr.drewN t) (rd_whole (hp_drewN hgb) (by simp [marks_length])) (hxr.mod0 ((Mod.refl [] wr).drewN t)) (by omega)
      simp only [beq_self_eq_true] at hkq
      have HKQ := Lib.hid hkq
      have HSA := Lib.hid (fun (wq : World) (hq : Mod [] wr wq) (t : Nat) => str_rd (w := wq.drewN t) (rd_front (cap := x.d.length + 70) (hp_drewN (hq.get0 hgb)) (by omega)) x.d.length rfl)
      have HSB := Lib.hid (fun (wq : World) (hq : Mod [] wr wq) (t : Nat) => str_rd (w := wq.drewN t) (hxr.mod0 (hq.drewN t)) x.d.length rfl)
      have q0 : (0 : Int) ≤ (i : Int) := by omega
      have q1 : (i : Int) < (n : Int) := by omega
      have q2 : (i : Int) < (n : Int) + 9 := by omega
      clear hxk hyk hyx hxr hL hye hgb hmine hwv hkq
      go_wp2_with fail
      go_quiet ((go_at_call 16; exact Calls.quiet_of (HKQ.out _)))
      go_wp2_with fail
      obtain ⟨wq, hwq⟩ : ∃ wq, wq = wr.drewN nq := ⟨_, rfl⟩
      have hmq := (Mod.refl [] wr).drewN nq
      rw [← hwq] at hmq ⊢
      have hsa := HSA.out wq hmq
      have hsb := HSB.out wq hmq
      have k0 := cell_mod0 hmq hx0
      have k1 := cell_mod0 hmq hcr
      have k2 := cell_mod0 hmq hcm
      have HMQ := Lib.hid hmq
      clear hwq hmq hcr hcm hco hx0 hx1 HKQ HSA HSB
      go_quiet (fail)
      go_wp2_with fail
      go_roundw
      case rel => exact ⟨i + 1, by omega, by go_num, HMQ.out.get0 HB.out, HM.out.trans0 (HMQ.out.drewN _)⟩
      case measure => simp [intOf]; omega
    · have hin : i = n := by omega
      subst hin
      have hd : decide ((i : Int) < (i : Int)) = false := by simp
      go_wp2_with fail
      obtain ⟨wo, hwo⟩ : ∃ wo, wo = wr := ⟨_, rfl⟩
      rw [← hwo] at HB HM ⊢
      clear hwo hx0 hx1
      go_loopw [7] (fun iv wr => ∃ j : Nat, j ≤ 9 ∧ iv = .int .i64 ((i : Int) + j) ∧ Mod [] wo wr) (fun iv _ => i + 9 - (intOf iv).toNat)
      case atStart => exact ⟨0, by omega, by simp, Mod.refl _ _⟩
      case round =>
        obtain ⟨j, hj, rfl, hmo⟩ := hrel
        have HMO := Lib.hid hmo
        have hx0 : wr.cell? ⟨w.heap.size, 0, none⟩ = some (.slice (some ⟨m, 0, none⟩) (i + 9) (i + 9)) := by rw [cell_blk (hmo.get0 HB.out)]; rfl
        obtain ⟨t, ht⟩ : ∃ t, t = i + j := ⟨_, rfl⟩
        have htz : (i : Int) + (j : Int) = (t : Int) := by omega
        rw [htz]
        by_cases hlj : j < 9
        · obtain ⟨ms, hml, hmine, hmk⟩ := (HL.out.mod0 (HM.out.trans0 hmo)).mine
          obtain ⟨y, hy⟩ : ∃ y, ms[j]? = some y := ⟨ms[j]'(by omega), List.getElem?_eq_getElem _⟩
          obtain ⟨hyd, hyr⟩ := hmk y (List.mem_of_getElem? hy)
          have hcm : wr.cell? ⟨m, t, none⟩ = some (.slice y.p 4 y.cap) := by
            rw [cell_blk hmine, List.getElem?_toArray, ht]
            have h2 := mine_cell2 (ys := ys) (mk := ms) (r := 0) j y hy
            rw [HYL.out] at h2
            rw [h2]
            simp [SlR.v, hyd]
          rw [hyd] at hyr
          have hst := str_rd hyr 4 rfl
          have r0 : (0 : Int) ≤ (t : Int) := by omega
          have r1 : (t : Int) < (i : Int) + 9 := by omega
          have HTZ := Lib.hid htz
          clear ht htz hml hmine hmk hy hyd hyr hmo
          go_wp2_with fail
          go_roundw
          case rel => exact ⟨j + 1, by omega, by have := HTZ.out; congr 1; omega, HMO.out⟩
          case measure => have := HTZ.out; simp [intOf]; omega
        · have hj9 : j = 9 := by omega
          subst hj9
          have hd : decide ((t : Int) < (i : Int) + 9) = false := by simp; omega
          clear ht htz hmo
          go_wp2_with fail
          go_ret
          exact ⟨rfl, HM.out.trans0 HMO.out⟩
/-- The blocks of leaves. -/
def blks (ys : List SlR) : List Nat := ys.map fun y => (y.p.map (·.block)).getD 0
theorem blk_mem {ys : List SlR} {y : SlR} {g : Nat} (h : y ∈ ys) (hp : y.p = some ⟨g, 0, none⟩) : g ∈ blks ys := List.mem_map.2 ⟨y, h, by rw [hp]; rfl⟩
theorem held_blk {w : World} {B : Nat} {ys : List SlR} (h : Held 70 w B ys) {g : Nat} (hg : g ∈ blks ys) : B ≤ g ∧ ∃ d : List UInt8, w.heap[g]? = some (.cells (d.map V8).toArray 5) := by
  obtain ⟨y, hy, rfl⟩ := List.mem_map.1 hg
  obtain ⟨_, g, h1, h2, h3⟩ := h.at_ y hy
  rw [h1]
  exact ⟨h2, _, h3⟩
theorem not_blk {w : World} {B : Nat} {ys : List SlR} (h : Held 70 w B ys) {b : Nat} {C : Array Value} {t : TypeId} {fr : Nat × Nat} (hb : w.heap[b]? = some (.cells C t fr)) (ht : t ≠ 5) : b ∉ blks ys := by
  intro hx
  obtain ⟨_, d, hd⟩ := held_blk h hx
  rw [hb] at hd
  injection hd with hd
  injection hd with _ h2 _
  exact ht h2
theorem own_off {w : World} {B m co : Nat} {po : Option Addr} {ys : List SlR} (h : Loan w B m po co ys) : ys.map (wide 70) ≠ [] → Off po (blks ys) := by
  intro hne p hp hx
  obtain ⟨_, d, hd⟩ := held_blk h.held hx
  obtain ⟨x, l, hxl⟩ := List.exists_cons_of_ne_nil hne
  obtain ⟨b, o, e, hc⟩ := h.own.cell 0 x (by rw [hxl]; rfl)
  rw [hp] at e; injection e with e; subst e
  rw [cell_blk hd, List.getElem?_toArray, List.getElem?_map] at hc
  cases hq : d[o + 0]? with
  | none => rw [hq] at hc; cases hc
  | some v => rw [hq] at hc; simp only [Option.map_some, Option.some.injEq] at hc; cases hc
/-- Leaves with other bytes. -/
def putD (ys zs : List SlR) : List SlR := List.zipWith (fun y z => (⟨y.p, y.cap, z.d⟩ : SlR)) ys zs
structure Wrote (w : World) (B m : Nat) (ys zs : List SlR) (w' : World) : Prop where
  held : Held 70 w' B (putD ys zs)
  mine : ∃ ms : List SlR, ms.length = 9 ∧ w'.heap[m]? = some (.cells (mineOf (putD ys zs) ms 0).toArray 22)
  md : Mod (blks ys) w w'
theorem putD_v {ys zs : List SlR} (h : (ds ys).map List.length = (ds zs).map List.length) : (putD ys zs).map SlR.v = ys.map SlR.v := by
  induction ys generalizing zs with
  | nil => simp [putD]
  | cons y ys ih =>
    cases zs with
    | nil => simp [ds] at h
    | cons z zs =>
      simp only [ds, List.map_cons, List.cons.injEq] at h
      have := ih (zs := zs) (by simpa [ds] using h.2)
      simp only [putD, List.zipWith_cons_cons, List.map_cons] at this ⊢
      rw [this]
      simp [SlR.v, h.1]
theorem putD_ds {ys zs : List SlR} (h : ys.length = zs.length) : ds (putD ys zs) = ds zs := by
  induction ys generalizing zs with
  | nil => cases zs with
    | nil => rfl
    | cons z zs => simp at h
  | cons y ys ih =>
    cases zs with
    | nil => simp at h
    | cons z zs =>
      have := ih (zs := zs) (by simpa using h)
      simp only [putD, ds, List.zipWith_cons_cons, List.map_cons] at this ⊢
      rw [this]
theorem putD_get {ys zs : List SlR} (i : Nat) (y z : SlR) (hy : ys[i]? = some y) (hz : zs[i]? = some z) : (putD ys zs)[i]? = some ⟨y.p, y.cap, z.d⟩ := by
  unfold putD
  rw [List.getElem?_zipWith, hy, hz]
set_option maxRecDepth 100000 in
set_option maxHeartbeats 1000000 in
theorem write_loan (zs : List SlR) (q : Option Addr) (c n : Nat) (w : World) (hn : n = zs.length) (h : Lv w q c zs) (hn4 : n ≤ 1048576) (B m co : Nat) (po : Option Addr) (ys : List SlR) (hL : Loan w B m po co ys) (hd : (ds ys).map List.length = (ds zs).map List.length)
    (hq : Off q (blks ys)) (hz : ∀ z ∈ zs, Off z.p (blks ys)) :
    Calls Tryd.prog 22 #[loanV m po co n, .slice q n c] w fun e w' => e = .returned (.tuple #[]) ∧ Wrote w B m ys zs w' := by
  have HV := Lib.hid h
  have HN := Lib.hid hn
  have HL := Lib.hid hL
  have HD := Lib.hid hd
  have HQ := Lib.hid hq
  have HZ := Lib.hid hz
  have hyl : ys.length = n := by
    have := congrArg List.length hd
    simp [ds] at *; omega
  have HYL := Lib.hid hyl
  have hpl : (putD ys zs).length = n := by unfold putD; simp; omega
  have HPL := Lib.hid hpl
  clear h hn hL hd hq hz hyl hpl
  unfold loanV
  go_enter Tryd.func22, Tryd.ntmps22
  go_wp2_with fail
  have hb0 : (w.alloc (.cells #[.slice (some ⟨m, 0, none⟩) (n + 9) (n + 9), .slice po n co, .int .i64 n] 35)).heap[w.heap.size]? = some (.cells #[.slice (some ⟨m, 0, none⟩) (n + 9) (n + 9), .slice po n co, .int .i64 n] 35) := hp_new w _ _ rfl
  have hm0 := (Mod.refl (blks ys) w).alloc (.cells #[.slice (some ⟨m, 0, none⟩) (n + 9) (n + 9), .slice po n co, .int .i64 n] 35)
  have hh0 := HL.out.held.mod0 ((Mod.refl [] w).alloc (.cells #[.slice (some ⟨m, 0, none⟩) (n + 9) (n + 9), .slice po n co, .int .i64 n] 35))
  have HB0 := Lib.hid hb0
  have HM0 := Lib.hid hm0
  have HH0 := Lib.hid hh0
  clear hb0 hm0 hh0
  go_loopw [4] (fun iv wr => ∃ i : Nat, i ≤ n ∧ iv = .int .i64 i ∧ wr.heap[w.heap.size]? = some (.cells #[.slice (some ⟨m, 0, none⟩) (n + 9) (n + 9), .slice po n co, .int .i64 n] 35) ∧ Held 70 wr B ((putD ys zs).take i ++ ys.drop i) ∧ Mod (blks ys) w wr) (fun iv _ => n - (intOf iv).toNat)
  case atStart => exact ⟨0, by omega, rfl, HB0.out, HH0.out, HM0.out⟩
  case round =>
    obtain ⟨i, hi, rfl, hb, hh, hm⟩ := hrel
    have HB := Lib.hid hb
    have HM := Lib.hid hm
    have HH := Lib.hid hh
    have hx1 : wr.cell? ⟨w.heap.size, 1, none⟩ = some (.slice po n co) := by rw [cell_blk hb]; rfl
    clear hb hm hh HB0 HM0 HH0
    by_cases hlt : i < n
    · obtain ⟨z, hzk⟩ : ∃ z, zs[i]? = some z := ⟨zs[i]'(by have := HN.out; omega), List.getElem?_eq_getElem _⟩
      obtain ⟨y, hyk⟩ : ∃ y, ys[i]? = some y := ⟨ys[i]'(by have := HYL.out; omega), List.getElem?_eq_getElem _⟩
      have hyz : y.d.length = z.d.length := by
        have h1 := congrArg (·[i]?) HD.out
        simpa [ds, hyk, hzk] using h1
      have hzs := HV.out.small z (List.mem_of_getElem? hzk)
      obtain ⟨b, o, rfl, hcr⟩ := (HV.out.rd.mod HM.out (fun _ => HQ.out)).cell i z hzk
      unfold SlR.v at hcr
      have hzr := (HV.out.each z (List.mem_of_getElem? hzk)).mod HM.out (fun _ => HZ.out z (List.mem_of_getElem? hzk))
      have hci : ((putD ys zs).take i ++ ys.drop i)[i]? = some y := by
        rw [List.getElem?_append_right (by simp; omega), List.length_take, HPL.out, Nat.min_eq_left hi, Nat.sub_self, List.getElem?_drop, Nat.add_zero]; exact hyk
      obtain ⟨g, hye, hgB, hgb⟩ := of_held HH.out i y hci
      obtain ⟨bo, oo, rfl, hco⟩ := (HL.out.own.mod HM.out (own_off HL.out)).cell i (wide 70 y) (by rw [List.getElem?_map, hyk]; rfl)
      have hwv : SlR.v (wide 70 y) = .slice (some ⟨g, 0, none⟩) (y.d.length + 70) (y.d.length + 70) := by rw [hye]; simp [SlR.v, wide, marks_length]
      rw [hwv] at hco
      obtain ⟨D', hD'⟩ : ∃ D', D' = z.d ++ marks 70 := ⟨_, rfl⟩
      have e1 : (y.d ++ marks 70).take 0 ++ (z.d.take (y.d.length + 70) ++ (y.d ++ marks 70).drop (0 + min z.d.length (y.d.length + 70))) = D' := by
        rw [hD', List.take_zero, List.nil_append, List.take_of_length_le (by omega), show 0 + min z.d.length (y.d.length + 70) = y.d.length by omega, List.drop_left' rfl]
      have hyg : y.p = some ⟨g, 0, none⟩ := by rw [hye]
      have hgin : g ∈ blks ys := blk_mem (List.mem_of_getElem? hyk) hyg
      have hfit : 0 + (y.d.length + 70) ≤ (y.d ++ marks 70).length := by simp [marks_length]
      have hgd := hp_drew hgb
      have hzd := hzr.mod0 (Mod.refl [] wr).drew
      have HZK := Lib.hid hzk
      have HYK := Lib.hid hyk
      have HYZ := Lib.hid hyz
      have HCI := Lib.hid hci
      have HYG := Lib.hid hyg
      have HDE := Lib.hid hD'
      have HE1 := Lib.hid e1
      have HGI := Lib.hid hgin
      have HGD := Lib.hid hgd
      have HZD := Lib.hid hzd
      have HFIT := Lib.hid hfit
      have q0 : (0 : Int) ≤ (i : Int) := by omega
      have q1 : (i : Int) < (n : Int) := by omega
      clear hzk hyk hyz hzr hci hye hgb hwv hD' e1 hyg hgin hgd hzd hfit
      go_wp2_with fail
      go_region_law (refine step_copy8 rfl (.tmp 15) (.tmp 19) rfl g 0 (y.d.length + 70) (y.d.length + 70) z.p z.d.length z.cap z.d (y.d ++ marks 70) rfl rfl HGD.out HZD.out rfl HFIT.out D' HE1.out ?_)
      all_goals
        have hset : Mod [g] wr.drew (wr.drew.setRow g (D'.map V8).toArray) := (Mod.refl [g] _).setRow (.inl (by simp)) _
        have HSTN : Hid (Held 70 (wr.drew.setRow g (D'.map V8).toArray) B ((putD ys zs).take (i + 1) ++ ys.drop (i + 1))) := by
          have ht := (HH.out.mod0 (Mod.refl [] wr).drew).turn i y HCI.out g HYG.out z.d HYZ.out.symm
          rw [← HDE.out, set_mix (putD ys zs) ys i _ (putD_get i y z HYK.out HZK.out) (by rw [HYL.out, HPL.out])] at ht
          exact Lib.hid ht
        have HMN : Hid (Mod (blks ys) w (wr.drew.setRow g (D'.map V8).toArray)) := Lib.hid ((HM.out.drew).trans hset (fun x hx => .inl (by rw [List.mem_singleton.1 hx]; exact HGI.out)))
        have HBN : Hid ((wr.drew.setRow g (D'.map V8).toArray).heap[w.heap.size]? = some (.cells #[.slice (some ⟨m, 0, none⟩) (n + 9) (n + 9), .slice (some ⟨bo, oo, none⟩) n co, .int .i64 n] 35)) := Lib.hid (hset.get (hp_drew HB.out) (fun hx => by
          have hx := List.mem_singleton.1 hx
          obtain ⟨_, d, hd⟩ := held_blk HL.out.held HGI.out
          have := lt_of_block hd
          omega))
        obtain ⟨W, hW⟩ : ∃ W, W = wr.drew.setRow g (D'.map V8).toArray := ⟨_, rfl⟩
        rw [← hW] at HSTN HMN HBN ⊢
        clear hset hW
        go_wp2_with fail
        go_roundw
        case rel => exact ⟨i + 1, by omega, by go_num, HBN.out, HSTN.out, HMN.out⟩
        case measure => simp [intOf]; omega
    · have hin : i = n := by omega
      have hd : decide ((i : Int) < (n : Int)) = false := by simp; omega
      have HIN := Lib.hid hin
      clear hin
      go_wp2_with fail
      go_end0
      obtain ⟨ms, h1, h2, _⟩ := HL.out.mine
      have hpl := HPL.out
      have hyl := HYL.out
      refine ⟨rfl, ?_, ⟨ms, h1, ?_⟩, HM.out⟩
      · have h := HH.out
        rwa [HIN.out, List.take_of_length_le (by omega), List.drop_of_length_le (by omega), List.append_nil] at h
      · have h := HM.out.get h2 (not_blk HL.out.held h2 (by decide))
        have e : mineOf (putD ys zs) ms 0 = mineOf ys ms 0 := by
          unfold mineOf
          rw [List.map_append, List.map_append, List.map_append, List.map_append, putD_v HD.out]
        rw [e]; exact h
end Go.Proofs.YtbbobpjcbnfpfaaDoor
