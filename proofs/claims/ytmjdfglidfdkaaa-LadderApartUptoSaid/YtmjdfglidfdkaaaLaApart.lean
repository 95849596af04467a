/- LadderApart, the walk: whatever the script, true. The condition: at most 2^20 steps. -/
import Derived.Test.YtmjdfglidfdkaaaLaDo
import Derived.Test.YtmjdfglidfdkaaaLwWin3
namespace Go.Proofs.Ytmjdfglidfdkaaa
open Go.RowKit
attribute [local go_sem high] one8 st8 cm8 b_and8 b_and8r b_and8l b_or8 b_or8r b_or8l b_xor8 b_xor8r b_xor8l b_andNot8 b_andNot8r b_andNot8l b_add8 b_add8r b_add8l b_sub8 b_sub8r b_sub8l b_mul8 b_mul8r b_mul8l b_eql8 b_eql8r b_eql8l b_neq8 b_neq8r b_neq8l b_lss8 b_lss8r b_lss8l b_leq8 b_leq8r b_leq8l b_gtr8 b_gtr8r b_gtr8l b_geq8 b_geq8r b_geq8l b_quo8r b_rem8r b_shl8r b_shr8r b_shl8l b_shr8l u_xor8 g_eql8 g_neq8 g_eql8' g_neq8' one32 st32 cm32 b_and32 b_and32r b_and32l b_or32 b_or32r b_or32l b_xor32 b_xor32r b_xor32l b_andNot32 b_andNot32r b_andNot32l b_add32 b_add32r b_add32l b_sub32 b_sub32r b_sub32l b_mul32 b_mul32r b_mul32l b_eql32 b_eql32r b_eql32l b_neq32 b_neq32r b_neq32l b_lss32 b_lss32r b_lss32l b_leq32 b_leq32r b_leq32l b_gtr32 b_gtr32r b_gtr32l b_geq32 b_geq32r b_geq32l b_quo32r b_rem32r b_shl32r b_shr32r b_shl32l b_shr32l u_xor32 g_eql32 g_neq32 g_eql32' g_neq32' one64 st64 cm64 b_and64 b_and64r b_and64l b_or64 b_or64r b_or64l b_xor64 b_xor64r b_xor64l b_andNot64 b_andNot64r b_andNot64l b_add64 b_add64r b_add64l b_sub64 b_sub64r b_sub64l b_mul64 b_mul64r b_mul64l b_eql64 b_eql64r b_eql64l b_neq64 b_neq64r b_neq64l b_lss64 b_lss64r b_lss64l b_leq64 b_leq64r b_leq64l b_gtr64 b_gtr64r b_gtr64l b_geq64 b_geq64r b_geq64l b_quo64r b_rem64r b_shl64r b_shr64r b_shl64l b_shr64l u_xor64 g_eql64 g_neq64 g_eql64' g_neq64' c_u8_u8 c_u8_u32 c_u8_u64 c_i_u8 c_u32_u8 c_u32_u32 c_u32_u64 c_i_u32 c_u64_u8 c_u64_u32 c_u64_u64 c_i_u64 c_u8_i c_u32_i
attribute [local go_sem ↓] ce8 ce32 ce64
attribute [local go_sem ↓] sliced_slp loadO25 storeO25 loadO44 storeO44 loadO35 loadO84 storeO84 buildO44 buildO25 buildO35 buildO23 loadO37 storeO37
/-- The steps from a on, up to k. -/
def Lad.run (L : Lad) (xs : List St) (a k : Nat) : Lad := ((xs.take k).drop a).foldl Lad.step L
theorem Lad.run_self (L : Lad) (xs : List St) (a : Nat) : L.run xs a a = L := by
  unfold Lad.run
  rw [List.drop_eq_nil_of_le (by simp; omega)]; rfl
theorem Lad.run_succ (L : Lad) (xs : List St) (a k : Nat) (s : St) (ha : a ≤ k) (hs : xs[k]? = some s) : L.run xs a (k + 1) = (L.run xs a k).step s := by
  unfold Lad.run
  have hk := (List.getElem?_eq_some_iff.1 hs).1
  rw [List.take_add_one, hs, List.drop_append_of_le_length (by simp; omega), List.foldl_append]
  rfl
/-- A ladder behind some steps, from the world W on. -/
structure Run (B g : Nat) (v0 : Value) (L : Lad) (W w : World) (v : Value) : Prop where
  is_ : IsL w B g v L
  mod : Mod (foot g v0) W w
  own : ∀ x, v.ownBlock = some x → v0.ownBlock = some x ∨ W.heap.size ≤ x
theorem Run.start {B g : Nat} {v : Value} {L : Lad} {W : World} (h : IsL W B g v L) : Run B g v L W W v := ⟨h, Mod.refl _ _, fun _ hx => .inl hx⟩
theorem Run.post {B g : Nat} {v0 v : Value} {L L' : Lad} {W w w' : World} {r : Value} {e : Ending} (h : Run B g v0 L W w v) (hg : g < W.heap.size) (hp : LadPost B g v L' r w e w') : e = .returned r ∧ ∃ v', Run B g v0 L' W w' v' := by
  obtain ⟨v', rfl, h1, h2, h3⟩ := hp
  refine ⟨rfl, v', h1, h.mod.trans h2 (fun x hx => ?_), fun x hx => ?_⟩
  · rcases mem_foot.1 hx with rfl | hx
    · exact .inl (mem_foot.2 (.inl rfl))
    · rcases h.own x hx with h4 | h4
      · exact .inl (mem_foot.2 (.inr h4))
      · exact .inr h4
  · rcases h3 x hx with h4 | h4
    · exact h.own x h4
    · exact .inr (Nat.le_trans h.mod.size h4)
set_option maxRecDepth 100000 in
/-- No ladder: true. -/
theorem apart_none (c : Cm) (z : Int) (p : Option Addr) (n cap : Nat) (cut : Int) (w : World) (h : newErr c z ≠ 0) :
    Calls Try.prog 5 #[scv c z p n cap, .int .i64 cut] w fun e w' => e = .returned (.bool true) ∧ Mod [] w w' := by
  have HN := Lib.hid (fun w1 => new_no c z w1 h)
  have HA := Lib.hid awake_any
  have hd : (newErr c z == 0) = false := by simpa using h
  have hd2 : (newErr c z != 0) = true := by simpa using h
  obtain ⟨er, her⟩ : ∃ er, er = newErr c z := ⟨_, rfl⟩
  rw [← her] at HN hd hd2
  have HL := Lib.hid (fun (w1 : World) (h1 : w1.heap[w.heap.size]? = some (.cells (scells c z p n cap).toArray 28 (0, 0))) => sc_load h1)
  obtain ⟨cs, hcs⟩ : ∃ cs, cs = scells c z p n cap := ⟨_, rfl⟩
  unfold scv
  rw [show c.cells ++ [Value.int .i64 z, Value.slice p n cap] = cs from hcs.symm]
  rw [← hcs] at HL
  clear h her hcs
  go_enter Try.func5, Try.ntmps5
  go_wp2_with fail
  refine (HA.out _).mono ?_
  rintro e w1 ⟨rfl, m1⟩
  obtain ⟨l1, l2, l3⟩ := HL.out w1 (m1.get0 (hp_new _ _ _ rfl))
  have M1 := ((Mod.refl [] w).alloc (.cells cs.toArray 28)).trans0 m1
  clear m1
  go_wp2_with fail
  refine (HN.out _).mono ?_
  rintro e w2 ⟨rfl, m2⟩
  clear l1 l2 l3
  go_wp2_with fail
  go_ret
  exact ⟨rfl, M1.trans0 m2⟩
set_option maxRecDepth 100000 in
set_option maxHeartbeats 4000000 in
/-- A ladder: true behind every script. -/
theorem apart_main (c : Cm) (z : Int) (p : Option Addr) (cap : Nat) (xs : List St) (cut : Int) (w : World) (h : newErr c z = 0) (hr : RdN 94 St.cells w p cap xs) (hl : xs.length ≤ 1048576) (hc0 : -9223372036854775808 ≤ cut) (hc1 : cut ≤ 9223372036854775807) :
    Calls Try.prog 5 #[scv c z p xs.length cap, .int .i64 cut] w fun e w' => e = .returned (.bool true) ∧ Mod [] w w' := by
  have HN := Lib.hid (fun w1 (hB : w.heap.size + 1 ≤ w1.heap.size) => new_yes (w.heap.size + 1) c z w1 h hB)
  have HA := Lib.hid awake_any
  have HL := Lib.hid (fun (w1 : World) (h1 : w1.heap[w.heap.size]? = some (.cells (scells c z p xs.length cap).toArray 28 (0, 0))) => sc_load h1)
  have HR := Lib.hid hr
  have HOK := Lib.hid (Ok0 h)
  obtain ⟨cs, hcs⟩ : ∃ cs, cs = scells c z p xs.length cap := ⟨_, rfl⟩
  obtain ⟨L0, hL0⟩ : ∃ L0 : Lad, L0 = ⟨c, [], z, 0, 0⟩ := ⟨_, rfl⟩
  unfold scv
  rw [show c.cells ++ [Value.int .i64 z, Value.slice p xs.length cap] = cs from hcs.symm]
  rw [← hcs] at HL
  rw [← hL0] at HOK
  unfold NewL at HN
  rw [← hL0] at HN
  have HZ25 := Lib.hid (show Try.zeroCells25.size = 66 by kernel_rfl)
  have hpk := fun w1 => pick_any cut ((xs.length : Int) + 1) w1 hc0 hc1 (by omega) (by omega)
  have HPK := Lib.hid hpk
  clear h hcs hr hL0 hpk
  go_enter Try.func5, Try.ntmps5
  go_wp2_with fail
  refine (HA.out _).mono ?_
  rintro e w1 ⟨rfl, m1⟩
  obtain ⟨l1, l2, l3⟩ := HL.out w1 (m1.get0 (hp_new _ _ _ rfl))
  have M1 := ((Mod.refl [] w).alloc (.cells cs.toArray 28)).trans0 m1
  have HX1 := Lib.hid (m1.get0 (hp_new w (.cells cs.toArray 28) _ rfl))
  have S1 : w.heap.size + 1 ≤ w1.heap.size := lt_of_block HX1.out
  clear m1
  go_wp2_with fail
  refine (HN.out _ S1).mono ?_
  rintro e w2 ⟨g, rfl, hg, hl2, m2⟩
  have HX2 := Lib.hid (m2.get0 HX1.out)
  obtain ⟨k1, k2, k3⟩ := HL.out w2 HX2.out
  have M2 := M1.trans0 m2
  have HI2 := Lib.hid hl2
  clear l1 l2 l3 M1 HX1 m2 hl2 hg
  go_wp2_with fail
  refine (HPK.out _).mono ?_
  rintro e w3 ⟨⟨at_, hat, rfl⟩, rfl⟩
  have hat' : at_ ≤ xs.length := by omega
  clear k1 k2 k3
  go_wp2_with fail
  go_loopw [9] (fun iv wr => ∃ (k : Nat) (v : Value), k ≤ at_ ∧ iv = .int .i64 k ∧ IsL wr (w.heap.size + 1) g v (L0.run xs 0 k) ∧ (L0.run xs 0 k).Ok (k + 1) ∧ wr.heap[w.heap.size]? = some (.cells cs.toArray 28 (0, 0)) ∧ Mod [] w wr) (fun iv _ => at_ - (intOf iv).toNat)
  case atStart => exact ⟨0, _, by omega, rfl, by rw [Lad.run_self]; exact HI2.out, by rw [Lad.run_self]; exact HOK.out, HX2.out, M2⟩
  case round =>
    obtain ⟨k, v, hk, rfl, hi, hok, hx, hm⟩ := hrel
    obtain ⟨l1, l2, l3⟩ := HL.out wr hx
    have HI := Lib.hid hi
    have HK := Lib.hid hok
    have HX := Lib.hid hx
    clear hi hok hx HI2 HX2 M2 l1 l2
    by_cases hlt : k < at_
    · obtain ⟨s, hsk⟩ : ∃ s, xs[k]? = some s := ⟨xs[k], List.getElem?_eq_getElem (by omega)⟩
      obtain ⟨b', o', rfl, hrg⟩ := HR.out.elem St.len k s hsk
      have hL := loadSt (range_mod hm hrg (by simp))
      have hs := Lad.run_succ L0 xs 0 k s (Nat.zero_le _) hsk
      have HS := Lib.hid hs
      clear hs hrg hsk
      go_wp2_with fail
      refine (do_step (w.heap.size + 1) g v _ _ HI.out (k + 1) (by omega) HK.out s).mono ?_
      rintro e w4 ⟨v4, rfl, hi4, m4, _⟩
      have M4 := hm.trans m4 (fun x hx => .inr (by have := HI.out.foot_base x hx; omega))
      have HX4 := Lib.hid (m4.get HX.out (fun hx => by have := HI.out.foot_base _ hx; omega))
      have HI4 := Lib.hid hi4
      clear hi4 m4 hL
      go_wp2_with fail
      go_roundw
      case rel => exact ⟨k + 1, v4, by omega, by go_num, by rw [HS.out]; exact HI4.out, by rw [HS.out]; exact HK.out.step s, HX4.out, M4⟩
      case measure => simp [intOf]; omega
    · have hd : decide ((k : Int) < (at_ : Int)) = false := by simp; omega
      obtain rfl : k = at_ := by omega
      obtain ⟨L1, hL1⟩ : ∃ L1, L1 = L0.run xs 0 k := ⟨_, rfl⟩
      rw [← hL1] at HI HK
      clear hL1 HOK HN HPK HA
      have S2 : w.heap.size + 1 ≤ wr.heap.size := lt_of_block HX.out
      go_wp2_with fail
      refine (copy_any (w.heap.size + 1) g v L1 wr HI.out HK.out.len S2).mono ?_
      rintro e w3 ⟨g', vc, rfl, hg', hc3, hvc, m3⟩
      have HI3 := Lib.hid (HI.out.mod0 m3)
      have FL : ∀ x ∈ foot g v, x < wr.heap.size := HI.out.foot_lt
      have FC : ∀ y ∈ foot g' vc, wr.heap.size ≤ y ∧ y < w3.heap.size := by
        intro y hy
        refine ⟨?_, hc3.foot_lt y hy⟩
        rcases mem_foot.1 hy with rfl | hy
        · exact hg'
        · exact hvc y hy
      have HC3 := Lib.hid hc3
      have M3 := hm.trans0 m3
      have HX3 := Lib.hid (m3.get0 HX.out)
      have S3 : wr.heap.size ≤ w3.heap.size := m3.size
      clear hvc hc3 m3 l3 hm HX HI
      go_wp2_with fail
      refine (pending_any (w.heap.size + 1) g v L1 _ HI3.out HK.out.len).mono ?_
      rintro e w4 ⟨rb, rfl, hb4, m4⟩
      have HI4 := Lib.hid (HI3.out.mod0 m4)
      go_wp2_with fail
      refine (confirmed_any (w.heap.size + 1) g v L1 _ HI4.out).mono ?_
      rintro e w5 ⟨rfl, m5⟩
      have hS5 := storeNewCm w5 L1.confirmed _ HZ25.out
      have m6 := (m4.trans0 m5).alloc (.cells L1.confirmed.cells.toArray 25)
      have S5 : w3.heap.size ≤ w5.heap.size := (m4.trans0 m5).size
      have HB5 := Lib.hid (hb4.mod0 (m5.alloc (.cells L1.confirmed.cells.toArray 25)))
      have HD5 := Lib.hid (hp_new w5 (.cells L1.confirmed.cells.toArray 25) _ rfl)
      have HI5 := Lib.hid (HI3.out.mod0 m6)
      have HC5 := Lib.hid (HC3.out.mod0 m6)
      have HX5 := Lib.hid (m6.get0 HX3.out)
      have M5 := M3.trans0 m6
      have S6 : w3.heap.size ≤ (w5.alloc (.cells L1.confirmed.cells.toArray 25)).heap.size := m6.size
      clear hb4 m4 m5 m6 HI3 HI4 HC3 HX3 M3
      go_wp2_with fail
      obtain ⟨wn, hwn⟩ : ∃ wn, wn = wr.heap.size := ⟨_, rfl⟩
      rw [← hwn] at FL FC hg' S3
      obtain ⟨W2, hW2⟩ : ∃ W2, W2 = w5.alloc (.cells L1.confirmed.cells.toArray 25) := ⟨_, rfl⟩
      rw [← hW2] at HB5 HD5 HI5 HC5 HX5 M5 S6 ⊢
      clear hW2 hS5
      go_loopw [13] (fun iv wq => ∃ (j : Nat) (vj : Value), k ≤ j ∧ j ≤ xs.length ∧ iv = .int .i64 j ∧ Run (w.heap.size + 1) g' vc (L1.run xs k j) W2 wq vj ∧ (L1.run xs k j).Ok (j + 1)) (fun iv _ => xs.length - (intOf iv).toNat)
      case atStart => exact ⟨k, vc, by omega, by omega, rfl, by rw [Lad.run_self]; exact Run.start HC5.out, by rw [Lad.run_self]; exact HK.out⟩
      case round =>
        obtain ⟨j, vj, hkj, hj, rfl, hrun, hok⟩ := hrel
        have hmq : Mod [] w wr := M5.trans hrun.mod (fun x hx => .inr (by have := HC5.out.foot_base x hx; omega))
        obtain ⟨l1, l2, l3⟩ := HL.out wr (hrun.mod.get HX5.out (fun hx => by have := HC5.out.foot_base _ hx; omega))
        have HRUN := Lib.hid hrun
        have HJ := Lib.hid hok
        clear hrun hok l1 l2
        by_cases hlt : j < xs.length
        · obtain ⟨s, hsk⟩ : ∃ s, xs[j]? = some s := ⟨xs[j], List.getElem?_eq_getElem (by omega)⟩
          obtain ⟨b', o', rfl, hrg⟩ := HR.out.elem St.len j s hsk
          have hL := loadSt (range_mod hmq hrg (by simp))
          have hs := Lad.run_succ L1 xs k j s hkj hsk
          have HS := Lib.hid hs
          clear hs hrg hsk
          go_wp2_with fail
          refine (do_step (w.heap.size + 1) g' vj _ _ HRUN.out.is_ (j + 1) (by omega) HJ.out s).mono ?_
          rintro e w6 h6
          obtain ⟨rfl, v6, h7⟩ := HRUN.out.post HC5.out.lt h6
          have H7 := Lib.hid h7
          clear h6 h7 hL
          go_wp2_with fail
          go_roundw
          case rel => exact ⟨j + 1, v6, by omega, by omega, by go_num, by rw [HS.out]; exact H7.out, by rw [HS.out]; exact HJ.out.step s⟩
          case measure => simp [intOf]; omega
        · have hd : decide ((j : Int) < (xs.length : Int)) = false := by simp; omega
          obtain rfl : j = xs.length := by omega
          obtain ⟨L2, hL2⟩ : ∃ L2, L2 = L1.run xs k xs.length := ⟨_, rfl⟩
          rw [← hL2] at HRUN HJ
          have hq := HRUN.out.mod
          have HIq := Lib.hid (HI5.out.mod hq (fun hx => by have := FC _ hx; have := FL g (mem_foot.2 (.inl rfl)); omega) (fun x hx hv => by have := FC _ hx; have := FL x (mem_foot.2 (.inr hv)); omega))
          have HBq := Lib.hid (HB5.out.mod hq (fun x hx hv => by have := FC _ hx; have := HB5.out.row x hv; omega))
          have HDq := Lib.hid (hq.get HD5.out (fun hx => by have := FC _ hx; omega))
          have HXq := Lib.hid (hq.get HX5.out (fun hx => by have := HC5.out.foot_base _ hx; omega))
          have HCq := Lib.hid HRUN.out.is_
          have Sq : w3.heap.size ≤ wr.heap.size := Nat.le_trans S6 hq.size
          have Tq : w5.heap.size < wr.heap.size := lt_of_block HDq.out
          have FCq : ∀ y ∈ foot g' vj, wn ≤ y := by
            intro y hy
            rcases mem_foot.1 hy with rfl | hy
            · exact hg'
            · rcases HRUN.out.own y hy with h4 | h4
              · exact (FC y (mem_foot.2 (.inr h4))).1
              · omega
          clear hq HI5 HB5 HD5 HX5 HRUN M5
          have HL2 := Lib.hid hL2
          clear hL2
          go_wp2_with fail
          refine (pending_any (w.heap.size + 1) g v L1 wr HIq.out HK.out.len).mono ?_
          rintro e w7 ⟨ra, rfl, ha7, m7⟩
          have HI7 := Lib.hid (HIq.out.mod0 m7)
          clear l3
          go_wp2_with fail
          refine (confirmed_any (w.heap.size + 1) g v L1 _ HI7.out).mono ?_
          rintro e w8 ⟨rfl, m8⟩
          have hS8 := storeNewCm w8 L1.confirmed _ HZ25.out
          have m9 := (m7.trans0 m8).alloc (.cells L1.confirmed.cells.toArray 25)
          have T8 : wr.heap.size ≤ w8.heap.size := (m7.trans0 m8).size
          obtain ⟨p1, c1, rfl, hq1, _, _⟩ := (HBq.out.mod0 m9).rd
          obtain ⟨p2, c2, rfl, hq2, _, _⟩ := (ha7.mod0 (m8.alloc (.cells L1.confirmed.cells.toArray 25))).rd
          have HQ1 := Lib.hid hq1
          have HQ2 := Lib.hid hq2
          have HD9 := Lib.hid (m9.get0 HDq.out)
          have HE9 := Lib.hid (hp_new w8 (.cells L1.confirmed.cells.toArray 25) _ rfl)
          have HI9 := Lib.hid (HIq.out.mod0 m9)
          have HC9 := Lib.hid (HCq.out.mod0 m9)
          have HX9 := Lib.hid (m9.get0 HXq.out)
          have M9 := hmq.trans0 m9
          clear m7 m8 m9 ha7 hq1 hq2 HI7 HIq HCq HXq HDq HBq hmq
          go_wp2_with fail
          refine (same_refl p1 p2 c1 c2 L1.pending _ HQ1.out HQ2.out HK.out.len).mono ?_
          rintro e w10 ⟨rfl, m10⟩
          have HD10 := Lib.hid (m10.get0 HD9.out)
          have HE10 := Lib.hid (m10.get0 HE9.out)
          have HI10 := Lib.hid (HI9.out.mod0 m10)
          have HC10 := Lib.hid (HC9.out.mod0 m10)
          have HX10 := Lib.hid (m10.get0 HX9.out)
          have M10 := M9.trans0 m10
          clear m10 hS8 HD9 HE9 HI9 HC9 HX9 M9 HQ1 HQ2
          obtain ⟨b5, hb5⟩ : ∃ b, b = w5.heap.size := ⟨_, rfl⟩
          obtain ⟨b8, hb8⟩ : ∃ b, b = w8.heap.size := ⟨_, rfl⟩
          rw [← hb5] at HD10
          rw [← hb8] at HE10
          have L5 : wn ≤ b5 := by omega
          have L8 : wn ≤ b8 := by omega
          rw [← hb5, ← hb8]
          clear hb5 hb8
          go_wp2_with fail
          go_loopw [17] (fun iv wq => ∃ (j : Nat) (v3 : Value), k ≤ j ∧ j ≤ xs.length ∧ iv = .int .i64 j ∧ Run (w.heap.size + 1) g v (L1.run xs k j) w10 wq v3 ∧ (L1.run xs k j).Ok (j + 1)) (fun iv _ => xs.length - (intOf iv).toNat)
          case atStart => exact ⟨k, v, by omega, by omega, rfl, by rw [Lad.run_self]; exact Run.start HI10.out, by rw [Lad.run_self]; exact HK.out⟩
          case round =>
            obtain ⟨j, v3, hkj3, hj3, rfl, hrun, hok⟩ := hrel
            have hmq : Mod [] w wr := M10.trans hrun.mod (fun x hx => .inr (by have := HI10.out.foot_base x hx; omega))
            obtain ⟨l1, l2, l3⟩ := HL.out wr (hrun.mod.get HX10.out (fun hx => by have := HI10.out.foot_base _ hx; omega))
            have HRUN := Lib.hid hrun
            have HJ3 := Lib.hid hok
            clear hrun hok l1 l2
            by_cases hlt : j < xs.length
            · obtain ⟨s, hsk⟩ : ∃ s, xs[j]? = some s := ⟨xs[j], List.getElem?_eq_getElem (by omega)⟩
              obtain ⟨b', o', rfl, hrg⟩ := HR.out.elem St.len j s hsk
              have hL := loadSt (range_mod hmq hrg (by simp))
              have hs := Lad.run_succ L1 xs k j s hkj3 hsk
              have HS := Lib.hid hs
              clear hs hrg hsk
              go_wp2_with fail
              refine (do_step (w.heap.size + 1) g v3 _ _ HRUN.out.is_ (j + 1) (by omega) HJ3.out s).mono ?_
              rintro e w6 h6
              obtain ⟨rfl, v6, h7⟩ := HRUN.out.post HI10.out.lt h6
              have H7 := Lib.hid h7
              clear h6 h7 hL
              go_wp2_with fail
              go_roundw
              case rel => exact ⟨j + 1, v6, by omega, by omega, by go_num, by rw [HS.out]; exact H7.out, by rw [HS.out]; exact HJ3.out.step s⟩
              case measure => simp [intOf]; omega
            · have hd : decide ((j : Int) < (xs.length : Int)) = false := by simp; omega
              obtain rfl : j = xs.length := by omega
              rw [← HL2.out] at HRUN HJ3
              have hq := HRUN.out.mod
              have HA := Lib.hid HRUN.out.is_
              have HCz := Lib.hid (HC10.out.mod hq (fun hx => by have := FL _ hx; have := FCq g' (mem_foot.2 (.inl rfl)); omega) (fun x hx hv => by have := FL _ hx; have := FCq x (mem_foot.2 (.inr hv)); omega))
              have HDz := Lib.hid (hq.get HD10.out (fun hx => by have := FL _ hx; omega))
              have HEz := Lib.hid (hq.get HE10.out (fun hx => by have := FL _ hx; omega))
              clear hq HD10 HE10 HC10 HI10 HX10 HRUN
              go_wp2_with fail
              refine (pending_any (w.heap.size + 1) g v3 L2 wr HA.out HJ3.out.len).mono ?_
              rintro e w11 ⟨rx, rfl, hx11, m11⟩
              have HC11 := Lib.hid (HCz.out.mod0 m11)
              clear l3
              go_wp2_with fail
              refine (pending_any (w.heap.size + 1) g' vj L2 w11 HC11.out HJ3.out.len).mono ?_
              rintro e w12 ⟨ry, rfl, hy12, m12⟩
              obtain ⟨p1, c1, rfl, hq1, _, _⟩ := (hx11.mod0 m12).rd
              obtain ⟨p2, c2, rfl, hq2, _, _⟩ := hy12.rd
              have HQ1 := Lib.hid hq1
              have HQ2 := Lib.hid hq2
              have m13 := m11.trans0 m12
              clear hx11 hy12 hq1 hq2 m11 m12 HC11
              go_wp2_with fail
              refine (same_refl p1 p2 c1 c2 L2.pending _ HQ1.out HQ2.out HJ3.out.len).mono ?_
              rintro e w13 ⟨rfl, m14⟩
              have m15 := m13.trans0 m14
              have HI15 := Lib.hid (HA.out.mod0 m15)
              clear m13 m14 HQ1 HQ2
              go_wp2_with fail
              refine (confirmed_any (w.heap.size + 1) g v3 L2 _ HI15.out).mono ?_
              rintro e w14 ⟨rfl, m16⟩
              have hS14 := storeNewCm w14 L2.confirmed _ HZ25.out
              have m17 := (m15.trans0 m16).alloc (.cells L2.confirmed.cells.toArray 25)
              have HC17 := Lib.hid (HCz.out.mod0 m17)
              have HF17 := Lib.hid (hp_new w14 (.cells L2.confirmed.cells.toArray 25) _ rfl)
              clear m15 m16 HI15
              go_wp2_with fail
              refine (confirmed_any (w.heap.size + 1) g' vj L2 _ HC17.out).mono ?_
              rintro e w15 ⟨rfl, m18⟩
              have hS15 := storeNewCm w15 L2.confirmed _ HZ25.out
              have m19 := m18.alloc (.cells L2.confirmed.cells.toArray 25)
              have m20 := m17.trans0 m19
              have rb : ∀ {w' : World} {b : Nat} {cs : List Value} {T : TypeId}, w'.heap[b]? = some (.cells cs.toArray T (0, 0)) → w'.rangeAt b 0 cs := fun h => range_blk h 0 _ (fun j v hv => by simpa using hv)
              have q1 := loadCm (rb (m20.get0 HDz.out))
              have q2 := loadCm (rb (m20.get0 HEz.out))
              have q3 := loadCm (rb (m19.get0 HF17.out))
              have q4 := loadCm (rb (hp_new w15 (.cells L2.confirmed.cells.toArray 25) _ rfl))
              have M20 := hmq.trans0 m20
              have e1 := fun w => eqCm w L1.confirmed
              have e2 := fun w => eqCm w L2.confirmed
              have gc := guardCm
              clear m17 m18 m19 m20 rb hS14 HC17 HF17
              go_wp2_with fail
              go_ret
              exact ⟨rfl, M20⟩
end Go.Proofs.Ytmjdfglidfdkaaa
