/- LadderRefused, the round. -/
import Derived.Test.YtmjdfglidfdkaaaLsRef
import Derived.Test.YtmjdfglidfdkaaaLwWin3
namespace Go.Proofs.Ytmjdfglidfdkaaa
open Go.RowKit
attribute [local go_sem high] one8 st8 cm8 b_and8 b_and8r b_and8l b_or8 b_or8r b_or8l b_xor8 b_xor8r b_xor8l b_andNot8 b_andNot8r b_andNot8l b_add8 b_add8r b_add8l b_sub8 b_sub8r b_sub8l b_mul8 b_mul8r b_mul8l b_eql8 b_eql8r b_eql8l b_neq8 b_neq8r b_neq8l b_lss8 b_lss8r b_lss8l b_leq8 b_leq8r b_leq8l b_gtr8 b_gtr8r b_gtr8l b_geq8 b_geq8r b_geq8l b_quo8r b_rem8r b_shl8r b_shr8r b_shl8l b_shr8l u_xor8 g_eql8 g_neq8 g_eql8' g_neq8' one32 st32 cm32 b_and32 b_and32r b_and32l b_or32 b_or32r b_or32l b_xor32 b_xor32r b_xor32l b_andNot32 b_andNot32r b_andNot32l b_add32 b_add32r b_add32l b_sub32 b_sub32r b_sub32l b_mul32 b_mul32r b_mul32l b_eql32 b_eql32r b_eql32l b_neq32 b_neq32r b_neq32l b_lss32 b_lss32r b_lss32l b_leq32 b_leq32r b_leq32l b_gtr32 b_gtr32r b_gtr32l b_geq32 b_geq32r b_geq32l b_quo32r b_rem32r b_shl32r b_shr32r b_shl32l b_shr32l u_xor32 g_eql32 g_neq32 g_eql32' g_neq32' one64 st64 cm64 b_and64 b_and64r b_and64l b_or64 b_or64r b_or64l b_xor64 b_xor64r b_xor64l b_andNot64 b_andNot64r b_andNot64l b_add64 b_add64r b_add64l b_sub64 b_sub64r b_sub64l b_mul64 b_mul64r b_mul64l b_eql64 b_eql64r b_eql64l b_neq64 b_neq64r b_neq64l b_lss64 b_lss64r b_lss64l b_leq64 b_leq64r b_leq64l b_gtr64 b_gtr64r b_gtr64l b_geq64 b_geq64r b_geq64l b_quo64r b_rem64r b_shl64r b_shr64r b_shl64l b_shr64l u_xor64 g_eql64 g_neq64 g_eql64' g_neq64' c_u8_u8 c_u8_u32 c_u8_u64 c_i_u8 c_u32_u8 c_u32_u32 c_u32_u64 c_i_u32 c_u64_u8 c_u64_u32 c_u64_u64 c_i_u64 c_u8_i c_u32_i
attribute [local go_sem ↓] ce8 ce32 ce64
attribute [local go_sem ↓] sliced_slp loadO25 storeO25 loadO44 storeO44 loadO35 loadO84 storeO84 buildO44 buildO25 buildO35 buildO23 loadO37 storeO37
set_option maxRecDepth 100000 in
set_option maxHeartbeats 4000000 in
/-- A ladder: true behind every script. -/
theorem refused_main (c : Cm) (z : Int) (p : Option Addr) (cap : Nat) (xs : List St) (w : World) (h : newErr c z = 0) (hr : RdN 94 St.cells w p cap xs) (hl : xs.length ≤ 1048576) :
    Calls Try.prog 3 #[scv c z p xs.length cap] w fun e w' => e = .returned (.bool true) ∧ Mod [] w w' := by
  have HN := Lib.hid (fun w1 (hB : w.heap.size + 1 ≤ w1.heap.size) => new_yes (w.heap.size + 1) c z w1 h hB)
  have HA := Lib.hid awake_any
  have HL := Lib.hid (fun (w1 : World) (h1 : w1.heap[w.heap.size]? = some (.cells (scells c z p xs.length cap).toArray 28 (0, 0))) => sc_load h1)
  have HR := Lib.hid hr
  have HOK := Lib.hid (Ok0 h)
  obtain ⟨cs, hcs⟩ : ∃ cs, cs = scells c z p xs.length cap := ⟨_, rfl⟩
  unfold scv
  rw [show c.cells ++ [Value.int .i64 z, Value.slice p xs.length cap] = cs from hcs.symm]
  rw [← hcs] at HL
  have HZ25 := Lib.hid (show Try.zeroCells25.size = 66 by kernel_rfl)
  have HZ44 := Lib.hid (show Try.zeroCells44.size = 90 by kernel_rfl)
  have HZ37 := Lib.hid (show Try.zeroCells37.size = 94 by kernel_rfl)
  clear h hcs hr
  go_enter Try.func3, Try.ntmps3
  go_wp2_with fail
  refine (HA.out _).mono ?_
  rintro e w1 ⟨rfl, m1⟩
  obtain ⟨l1, l2, l3⟩ := HL.out w1 (m1.get0 (hp_new _ _ _ rfl))
  have M1 := ((Mod.refl [] w).alloc (.cells cs.toArray 28)).trans0 m1
  have HX1 := Lib.hid (m1.get0 (hp_new w (.cells cs.toArray 28) _ rfl))
  have S1 : w.heap.size + 1 ≤ w1.heap.size := lt_of_block HX1.out
  clear m1
  go_wp2_with fail
  refine (HN.out _ S1).mono ?_
  rintro e w2 ⟨g, rfl, hg, hl2, m2⟩
  have HX2 := Lib.hid (m2.get0 HX1.out)
  have M2 := M1.trans0 m2
  have HI2 := Lib.hid hl2
  clear l1 l2 l3 M1 HX1 m2 hl2 hg
  go_wp2_with fail
  go_loopw [6] (fun iv wr => ∃ (k : Nat) (v : Value) (L : Lad), k ≤ xs.length ∧ iv = .int .i64 k ∧ IsL wr (w.heap.size + 1) g v L ∧ L.Ok (k + 1) ∧ wr.heap[w.heap.size]? = some (.cells cs.toArray 28 (0, 0)) ∧ Mod [] w wr) (fun iv _ => xs.length - (intOf iv).toNat)
  case atStart => exact ⟨0, _, _, by omega, rfl, HI2.out, HOK.out, HX2.out, M2⟩
  case round =>
    obtain ⟨k, v, L, hk, rfl, hi, hok, hx, hm⟩ := hrel
    obtain ⟨l1, l2, l3⟩ := HL.out wr hx
    have HI := Lib.hid hi
    have HK := Lib.hid hok
    have HX := Lib.hid hx
    clear hi hok hx HI2 HX2 M2 l1 l2
    by_cases hlt : k < xs.length
    · obtain ⟨s, hsk⟩ : ∃ s, xs[k]? = some s := ⟨xs[k], List.getElem?_eq_getElem hlt⟩
      obtain ⟨b', o', rfl, hrg⟩ := HR.out.elem St.len k s hsk
      have hL := loadSt (range_mod hm hrg (by simp))
      have hS := storeNewSt wr s _ HZ37.out
      have M3 := hm.alloc (.cells s.cells.toArray 37)
      have HI3 := Lib.hid (HI.out.mod0 ((Mod.refl [] wr).alloc (.cells s.cells.toArray 37)))
      have HX3 := Lib.hid (hp_old (o := .cells s.cells.toArray 37) HX.out)
      have HS3 := Lib.hid (hp_new wr (.cells s.cells.toArray 37) _ rfl)
      clear hrg hsk
      go_wp2_with fail
      refine (pending_any (w.heap.size + 1) g v L _ HI3.out HK.out.len).mono ?_
      rintro e w4 ⟨r, rfl, hr4, m4⟩
      have HI4 := Lib.hid (HI3.out.mod0 m4)
      clear hL hS
      go_wp2_with fail
      refine (confirmed_any (w.heap.size + 1) g v L _ HI4.out).mono ?_
      rintro e w5 ⟨rfl, m5⟩
      have hS5 := storeNewCm w5 L.confirmed _ HZ25.out
      have m6 := (m4.trans0 m5).alloc (.cells L.confirmed.cells.toArray 25)
      have m7 := m5.alloc (.cells L.confirmed.cells.toArray 25)
      have HI5 := Lib.hid (HI3.out.mod0 m6)
      have HX5 := Lib.hid (m6.get0 HX3.out)
      have HS5 := Lib.hid (box_st (m6.get0 HS3.out))
      have HC5 := Lib.hid (hp_new w5 (.cells L.confirmed.cells.toArray 25) _ rfl)
      have HR5 := Lib.hid ((hr4.mod0 m7).mono (Nat.le_of_lt (lt_of_block HS3.out)))
      have S5 : wr.heap.size < w5.heap.size := lt_of_block ((m4.trans0 m5).get0 HS3.out)
      have M5 := M3.trans0 m6
      have LT5 : ∀ x ∈ foot g v, x < wr.heap.size := HI.out.foot_lt
      have hk5 := HS5.out.k
      clear hr4 m4 m5 m6 m7 HI4 HX3 HS3 HI3 hm M3
      have hi5 := HS5.out.i
      have hn5 := HS5.out.n
      have hu5 := HS5.out.u
      have hc5 := HS5.out.c
      have ha5 := HS5.out.a
      have hways : ((s.kind == 1) = true) ∨ ((s.kind == 1) = false ∧ (s.kind == 2) = true) ∨ ((s.kind == 1) = false ∧ (s.kind == 2) = false ∧ (s.kind == 3) = true) ∨ ((s.kind == 1) = false ∧ (s.kind == 2) = false ∧ (s.kind == 3) = false ∧ (s.kind == 4) = true) ∨ ((s.kind == 1) = false ∧ (s.kind == 2) = false ∧ (s.kind == 3) = false ∧ (s.kind == 4) = false ∧ (s.kind == 5) = true) ∨ ((s.kind == 1) = false ∧ (s.kind == 2) = false ∧ (s.kind == 3) = false ∧ (s.kind == 4) = false ∧ (s.kind == 5) = false) := by
        cases (s.kind == 1) <;> cases (s.kind == 2) <;> cases (s.kind == 3) <;> cases (s.kind == 4) <;> cases (s.kind == 5) <;> simp
      rcases hways with d1 | ⟨d1, d2⟩ | ⟨d1, d2, d3⟩ | ⟨d1, d2, d3, d4⟩ | ⟨d1, d2, d3, d4, d5⟩ | ⟨d1, d2, d3, d4, d5⟩
      case inl =>
        go_wp2_with fail
        have hP := post_step (w.heap.size + 1) g v L _ HI5.out (k + 1) (by omega) HK.out s.commit s.by_ s.inbox s.now
        obtain ⟨er, her⟩ : ∃ er, er = L.postErr s.commit s.inbox s.now := ⟨_, rfl⟩
        obtain ⟨L', hL'⟩ : ∃ L', L' = L.afterPost s.commit s.by_ s.inbox s.now := ⟨_, rfl⟩
        have hsame : er ≠ 0 → L' = L := by
          intro h
          rw [hL']
          rw [her] at h
          exact if_neg h
        have HO := Lib.hid (show L'.Ok (k + 1 + 1) by rw [hL']; exact HK.out.post _ _ _ _)
        obtain ⟨nu, hnu⟩ : ∃ nu, nu = L.numPost s.commit s.inbox s.now := ⟨_, rfl⟩
        have hnum : er ≠ 0 → nu = 0 := by
          intro h
          rw [hnu]
          rw [her] at h
          exact if_neg h
        rw [← her, ← hL', ← hnu] at hP
        clear her hL' hnu
        rcases Decidable.em (er = 0) with e0 | e0
        · subst e0
          clear hsame hnum
          refine hP.mono ?_
          rintro e w6 ⟨v6, rfl, hi6, m6, _⟩
          have HI6 := Lib.hid hi6
          have M6 := M5.trans m6 (fun x hx => .inr (by have := HI5.out.foot_base x hx; omega))
          have HX6 := Lib.hid (m6.get HX5.out (fun hx => by have := HI5.out.foot_base _ hx; omega))
          clear hi6 m6 hP hk5 hi5 hn5 hu5 hc5 ha5 hS5
          go_wp2_with fail
          refine (pending_any (w.heap.size + 1) g v6 L' _ HI6.out HO.out.len).mono ?_
          rintro e w7 ⟨r7, rfl, hr7, m7⟩
          have HI7 := Lib.hid (HI6.out.mod0 m7)
          go_wp2_with fail
          refine (confirmed_any (w.heap.size + 1) g v6 L' _ HI7.out).mono ?_
          rintro e w8 ⟨rfl, m8⟩
          have hS8 := storeNewCm w8 L'.confirmed _ HZ25.out
          have m9 := (m7.trans0 m8).alloc (.cells L'.confirmed.cells.toArray 25)
          have HI9 := Lib.hid (HI6.out.mod0 m9)
          have HX9 := Lib.hid (m9.get0 HX6.out)
          have M9 := M6.trans0 m9
          clear m7 m8 m9 HI7 hr7
          go_wp2_with fail
          go_roundw
          case rel => exact ⟨k + 1, v6, L', by omega, by go_num, HI9.out, HO.out, HX9.out, M9⟩
          case measure => simp [intOf]; omega
        · have hq := (hsame e0).symm
          subst hq
          have hz := hnum e0
          subst hz
          clear hnum
          have f1 : (er == 0) = false := by simpa using e0
          have f2 : (er != 0) = true := by simpa using e0
          clear e0 hsame
          refine hP.mono ?_
          rintro e w6 ⟨v6, rfl, hi6, m6, _⟩
          have HI6 := Lib.hid hi6
          have M6 := M5.trans m6 (fun x hx => .inr (by have := HI5.out.foot_base x hx; omega))
          have HX6 := Lib.hid (m6.get HX5.out (fun hx => by have := HI5.out.foot_base _ hx; omega))
          have HC6 := Lib.hid (m6.get HC5.out (fun hx => by have := LT5 _ hx; omega))
          have HR6 := Lib.hid (HR5.out.mod m6 (fun x hx hr => by have := LT5 x hx; have := HR5.out.row x hr; omega))
          clear hi6 m6 hP hk5 hi5 hn5 hu5 hc5 ha5 hS5
          go_wp2_with fail
          refine (pending_any (w.heap.size + 1) g v6 L _ HI6.out HK.out.len).mono ?_
          rintro e w7 ⟨r7, rfl, hr7, m7⟩
          have HI7 := Lib.hid (HI6.out.mod0 m7)
          go_wp2_with fail
          refine (confirmed_any (w.heap.size + 1) g v6 L _ HI7.out).mono ?_
          rintro e w8 ⟨rfl, m8⟩
          have hS8 := storeNewCm w8 L.confirmed _ HZ25.out
          have m9 := (m7.trans0 m8).alloc (.cells L.confirmed.cells.toArray 25)
          have HI9 := Lib.hid (HI6.out.mod0 m9)
          have HX9 := Lib.hid (m9.get0 HX6.out)
          have HC9 := Lib.hid (m9.get0 HC6.out)
          have HD9 := Lib.hid (hp_new w8 (.cells L.confirmed.cells.toArray 25) _ rfl)
          have M9 := M6.trans0 m9
          obtain ⟨p1, c1, rfl, hq1, _, _⟩ := (HR6.out.mod0 m9).rd
          obtain ⟨p2, c2, rfl, hq2, _, _⟩ := (hr7.mod0 (m8.alloc (.cells L.confirmed.cells.toArray 25))).rd
          have HQ1 := Lib.hid hq1
          have HQ2 := Lib.hid hq2
          clear m7 m8 m9 HI7 hr7 hq1 hq2
          go_wp2_with fail
          refine (same_refl p1 p2 c1 c2 L.pending _ HQ1.out HQ2.out HK.out.len).mono ?_
          rintro e w10 ⟨rfl, m10⟩
          have l18 := loadCm (range_blk (m10.get0 HD9.out) 0 _ (fun j u hu => by simpa using hu))
          have l9 := loadCm (range_blk (m10.get0 HC9.out) 0 _ (fun j u hu => by simpa using hu))
          have HI10 := Lib.hid (HI9.out.mod0 m10)
          have HX10 := Lib.hid (m10.get0 HX9.out)
          have M10 := M9.trans0 m10
          have nq := fun w => neqCm w L.confirmed
          have gq := guardCm
          clear m10 hS8
          go_wp2_with fail
          go_roundw
          case rel => exact ⟨k + 1, v6, L, by omega, by go_num, HI10.out, HK.out.up (Nat.le_succ _), HX10.out, M10⟩
          case measure => simp [intOf]; omega
      case inr.inl =>
        go_wp2_with fail
        have hP := conf_step (w.heap.size + 1) g v L _ HI5.out (k + 1) HK.out s.now
        obtain ⟨er, her⟩ : ∃ er, er = L.confErr s.now := ⟨_, rfl⟩
        obtain ⟨L', hL'⟩ : ∃ L', L' = L.afterConf s.now := ⟨_, rfl⟩
        have hsame : er ≠ 0 → L' = L := by
          intro h
          rw [hL']
          rw [her] at h
          exact if_neg h
        have HO := Lib.hid (show L'.Ok (k + 1 + 1) by rw [hL']; exact HK.out.conf _)
        obtain ⟨nu, hnu⟩ : ∃ nu, nu = L.outConf s.now := ⟨_, rfl⟩
        have hnum : er ≠ 0 → nu = Pd.zero := by
          intro h
          rw [hnu]
          rw [her] at h
          exact if_neg h
        rw [← her, ← hL', ← hnu] at hP
        clear her hL' hnu
        rcases Decidable.em (er = 0) with e0 | e0
        · subst e0
          clear hsame hnum
          refine hP.mono ?_
          rintro e w6 ⟨v6, rfl, hi6, m6, _⟩
          have HI6 := Lib.hid hi6
          have M6 := M5.trans m6 (fun x hx => .inr (by have := HI5.out.foot_base x hx; omega))
          have HX6 := Lib.hid (m6.get HX5.out (fun hx => by have := HI5.out.foot_base _ hx; omega))
          clear hi6 m6 hP hk5 hi5 hn5 hu5 hc5 ha5 hS5
          have HI6 := Lib.hid (HI6.out.mod0 ((Mod.refl [] w6).alloc (.cells nu.cells.toArray 44)))
          have HX6 := Lib.hid (hp_old (o := .cells nu.cells.toArray 44) HX6.out)
          have M6 := M6.alloc (.cells nu.cells.toArray 44)
          have hS6 := storeNewPd w6 nu _ HZ44.out
          go_wp2_with fail
          refine (pending_any (w.heap.size + 1) g v6 L' _ HI6.out HO.out.len).mono ?_
          rintro e w7 ⟨r7, rfl, hr7, m7⟩
          have HI7 := Lib.hid (HI6.out.mod0 m7)
          go_wp2_with fail
          refine (confirmed_any (w.heap.size + 1) g v6 L' _ HI7.out).mono ?_
          rintro e w8 ⟨rfl, m8⟩
          have hS8 := storeNewCm w8 L'.confirmed _ HZ25.out
          have m9 := (m7.trans0 m8).alloc (.cells L'.confirmed.cells.toArray 25)
          have HI9 := Lib.hid (HI6.out.mod0 m9)
          have HX9 := Lib.hid (m9.get0 HX6.out)
          have M9 := M6.trans0 m9
          clear m7 m8 m9 HI7 hr7
          go_wp2_with fail
          go_roundw
          case rel => exact ⟨k + 1, v6, L', by omega, by go_num, HI9.out, HO.out, HX9.out, M9⟩
          case measure => simp [intOf]; omega
        · have hq := (hsame e0).symm
          subst hq
          have hz := hnum e0
          subst hz
          clear hnum
          have f1 : (er == 0) = false := by simpa using e0
          have f2 : (er != 0) = true := by simpa using e0
          clear e0 hsame
          refine hP.mono ?_
          rintro e w6 ⟨v6, rfl, hi6, m6, _⟩
          have HI6 := Lib.hid hi6
          have M6 := M5.trans m6 (fun x hx => .inr (by have := HI5.out.foot_base x hx; omega))
          have HX6 := Lib.hid (m6.get HX5.out (fun hx => by have := HI5.out.foot_base _ hx; omega))
          have HC6 := Lib.hid (m6.get HC5.out (fun hx => by have := LT5 _ hx; omega))
          have HR6 := Lib.hid (HR5.out.mod m6 (fun x hx hr => by have := LT5 x hx; have := HR5.out.row x hr; omega))
          clear hi6 m6 hP hk5 hi5 hn5 hu5 hc5 ha5 hS5
          have HI6 := Lib.hid (HI6.out.mod0 ((Mod.refl [] w6).alloc (.cells Pd.zero.cells.toArray 44)))
          have HX6 := Lib.hid (hp_old (o := .cells Pd.zero.cells.toArray 44) HX6.out)
          have M6 := M6.alloc (.cells Pd.zero.cells.toArray 44)
          have hS6 := storeNewPd w6 Pd.zero _ HZ44.out
          have HC6 := Lib.hid (hp_old (o := .cells Pd.zero.cells.toArray 44) HC6.out)
          have HR6 := Lib.hid (HR6.out.mod0 ((Mod.refl [] w6).alloc (.cells Pd.zero.cells.toArray 44)))
          have l6 := loadPd (range_blk (hp_new w6 (.cells Pd.zero.cells.toArray 44) _ rfl) 0 _ (fun j u hu => by simpa using hu))
          have b6 := run_pd0
          have q6 := fun w => neqPd w Pd.zero
          have gp6 := guardPd
          go_wp2_with fail
          refine (pending_any (w.heap.size + 1) g v6 L _ HI6.out HK.out.len).mono ?_
          rintro e w7 ⟨r7, rfl, hr7, m7⟩
          have HI7 := Lib.hid (HI6.out.mod0 m7)
          go_wp2_with fail
          refine (confirmed_any (w.heap.size + 1) g v6 L _ HI7.out).mono ?_
          rintro e w8 ⟨rfl, m8⟩
          have hS8 := storeNewCm w8 L.confirmed _ HZ25.out
          have m9 := (m7.trans0 m8).alloc (.cells L.confirmed.cells.toArray 25)
          have HI9 := Lib.hid (HI6.out.mod0 m9)
          have HX9 := Lib.hid (m9.get0 HX6.out)
          have HC9 := Lib.hid (m9.get0 HC6.out)
          have HD9 := Lib.hid (hp_new w8 (.cells L.confirmed.cells.toArray 25) _ rfl)
          have M9 := M6.trans0 m9
          obtain ⟨p1, c1, rfl, hq1, _, _⟩ := (HR6.out.mod0 m9).rd
          obtain ⟨p2, c2, rfl, hq2, _, _⟩ := (hr7.mod0 (m8.alloc (.cells L.confirmed.cells.toArray 25))).rd
          have HQ1 := Lib.hid hq1
          have HQ2 := Lib.hid hq2
          clear m7 m8 m9 HI7 hr7 hq1 hq2
          go_wp2_with fail
          refine (same_refl p1 p2 c1 c2 L.pending _ HQ1.out HQ2.out HK.out.len).mono ?_
          rintro e w10 ⟨rfl, m10⟩
          have l18 := loadCm (range_blk (m10.get0 HD9.out) 0 _ (fun j u hu => by simpa using hu))
          have l9 := loadCm (range_blk (m10.get0 HC9.out) 0 _ (fun j u hu => by simpa using hu))
          have HI10 := Lib.hid (HI9.out.mod0 m10)
          have HX10 := Lib.hid (m10.get0 HX9.out)
          have M10 := M9.trans0 m10
          have nq := fun w => neqCm w L.confirmed
          have gq := guardCm
          clear m10 hS8
          go_wp2_with fail
          go_roundw
          case rel => exact ⟨k + 1, v6, L, by omega, by go_num, HI10.out, HK.out.up (Nat.le_succ _), HX10.out, M10⟩
          case measure => simp [intOf]; omega
      case inr.inr.inl =>
        go_wp2_with fail
        have hP := drop_step (w.heap.size + 1) g v L _ HI5.out (k + 1) HK.out s.number
        obtain ⟨er, her⟩ : ∃ er, er = L.dropErr s.number := ⟨_, rfl⟩
        obtain ⟨L', hL'⟩ : ∃ L', L' = L.afterDrop s.number := ⟨_, rfl⟩
        have hsame : er ≠ 0 → L' = L := by
          intro h
          rw [hL']
          rw [her] at h
          unfold Lad.dropErr at h; unfold Lad.afterDrop; split at h <;> first | rfl | exact absurd rfl h
        have HO := Lib.hid (show L'.Ok (k + 1 + 1) by rw [hL']; exact HK.out.drop _)
        obtain ⟨nu, hnu⟩ : ∃ nu, nu = L.outDrop s.number := ⟨_, rfl⟩
        have hnum : er ≠ 0 → nu = [] := by
          intro h
          rw [hnu]
          rw [her] at h
          unfold Lad.dropErr at h; unfold Lad.outDrop; split at h <;> first | rfl | exact absurd rfl h
        unfold DropQ at hP
        rw [← her, ← hL', ← hnu] at hP
        clear her hL' hnu
        rcases Decidable.em (er = 0) with e0 | e0
        · subst e0
          clear hsame hnum
          refine hP.mono ?_
          rintro e w6 ⟨r6, v6, rfl, hr6, hi6, m6, _⟩
          have HI6 := Lib.hid hi6
          have M6 := M5.trans m6 (fun x hx => .inr (by have := HI5.out.foot_base x hx; omega))
          have HX6 := Lib.hid (m6.get HX5.out (fun hx => by have := HI5.out.foot_base _ hx; omega))
          clear hi6 m6 hP hk5 hi5 hn5 hu5 hc5 ha5 hS5
          go_wp2_with fail
          refine (pending_any (w.heap.size + 1) g v6 L' _ HI6.out HO.out.len).mono ?_
          rintro e w7 ⟨r7, rfl, hr7, m7⟩
          have HI7 := Lib.hid (HI6.out.mod0 m7)
          go_wp2_with fail
          refine (confirmed_any (w.heap.size + 1) g v6 L' _ HI7.out).mono ?_
          rintro e w8 ⟨rfl, m8⟩
          have hS8 := storeNewCm w8 L'.confirmed _ HZ25.out
          have m9 := (m7.trans0 m8).alloc (.cells L'.confirmed.cells.toArray 25)
          have HI9 := Lib.hid (HI6.out.mod0 m9)
          have HX9 := Lib.hid (m9.get0 HX6.out)
          have M9 := M6.trans0 m9
          clear m7 m8 m9 HI7 hr7
          go_wp2_with fail
          go_roundw
          case rel => exact ⟨k + 1, v6, L', by omega, by go_num, HI9.out, HO.out, HX9.out, M9⟩
          case measure => simp [intOf]; omega
        · have hq := (hsame e0).symm
          subst hq
          have hz := hnum e0
          subst hz
          clear hnum
          have f1 : (er == 0) = false := by simpa using e0
          have f2 : (er != 0) = true := by simpa using e0
          clear e0 hsame
          refine hP.mono ?_
          rintro e w6 ⟨r6, v6, rfl, hr6, hi6, m6, _⟩
          have HI6 := Lib.hid hi6
          have M6 := M5.trans m6 (fun x hx => .inr (by have := HI5.out.foot_base x hx; omega))
          have HX6 := Lib.hid (m6.get HX5.out (fun hx => by have := HI5.out.foot_base _ hx; omega))
          have HC6 := Lib.hid (m6.get HC5.out (fun hx => by have := LT5 _ hx; omega))
          have HR6 := Lib.hid (HR5.out.mod m6 (fun x hx hr => by have := LT5 x hx; have := HR5.out.row x hr; omega))
          clear hi6 m6 hP hk5 hi5 hn5 hu5 hc5 ha5 hS5
          obtain ⟨p6, c6, rfl, _⟩ := hr6.rd
          go_wp2_with fail
          refine (pending_any (w.heap.size + 1) g v6 L _ HI6.out HK.out.len).mono ?_
          rintro e w7 ⟨r7, rfl, hr7, m7⟩
          have HI7 := Lib.hid (HI6.out.mod0 m7)
          go_wp2_with fail
          refine (confirmed_any (w.heap.size + 1) g v6 L _ HI7.out).mono ?_
          rintro e w8 ⟨rfl, m8⟩
          have hS8 := storeNewCm w8 L.confirmed _ HZ25.out
          have m9 := (m7.trans0 m8).alloc (.cells L.confirmed.cells.toArray 25)
          have HI9 := Lib.hid (HI6.out.mod0 m9)
          have HX9 := Lib.hid (m9.get0 HX6.out)
          have HC9 := Lib.hid (m9.get0 HC6.out)
          have HD9 := Lib.hid (hp_new w8 (.cells L.confirmed.cells.toArray 25) _ rfl)
          have M9 := M6.trans0 m9
          obtain ⟨p1, c1, rfl, hq1, _, _⟩ := (HR6.out.mod0 m9).rd
          obtain ⟨p2, c2, rfl, hq2, _, _⟩ := (hr7.mod0 (m8.alloc (.cells L.confirmed.cells.toArray 25))).rd
          have HQ1 := Lib.hid hq1
          have HQ2 := Lib.hid hq2
          clear m7 m8 m9 HI7 hr7 hq1 hq2
          go_wp2_with fail
          refine (same_refl p1 p2 c1 c2 L.pending _ HQ1.out HQ2.out HK.out.len).mono ?_
          rintro e w10 ⟨rfl, m10⟩
          have l18 := loadCm (range_blk (m10.get0 HD9.out) 0 _ (fun j u hu => by simpa using hu))
          have l9 := loadCm (range_blk (m10.get0 HC9.out) 0 _ (fun j u hu => by simpa using hu))
          have HI10 := Lib.hid (HI9.out.mod0 m10)
          have HX10 := Lib.hid (m10.get0 HX9.out)
          have M10 := M9.trans0 m10
          have nq := fun w => neqCm w L.confirmed
          have gq := guardCm
          clear m10 hS8
          go_wp2_with fail
          go_roundw
          case rel => exact ⟨k + 1, v6, L, by omega, by go_num, HI10.out, HK.out.up (Nat.le_succ _), HX10.out, M10⟩
          case measure => simp [intOf]; omega
      case inr.inr.inr.inl =>
        go_wp2_with fail
        have hP := hold_step (w.heap.size + 1) g v L _ HI5.out (k + 1) (by omega) HK.out s.number s.now
        obtain ⟨er, her⟩ : ∃ er, er = L.holdErr s.number s.now := ⟨_, rfl⟩
        obtain ⟨L', hL'⟩ : ∃ L', L' = L.afterHold s.number s.now := ⟨_, rfl⟩
        have hsame : er ≠ 0 → L' = L := by
          intro h
          rw [hL']
          rw [her] at h
          exact if_neg h
        have HO := Lib.hid (show L'.Ok (k + 1 + 1) by rw [hL']; exact HK.out.hold _ _)
        rw [← her, ← hL'] at hP
        clear her hL'
        rcases Decidable.em (er = 0) with e0 | e0
        · subst e0
          clear hsame
          refine hP.mono ?_
          rintro e w6 ⟨v6, rfl, hi6, m6, _⟩
          have HI6 := Lib.hid hi6
          have M6 := M5.trans m6 (fun x hx => .inr (by have := HI5.out.foot_base x hx; omega))
          have HX6 := Lib.hid (m6.get HX5.out (fun hx => by have := HI5.out.foot_base _ hx; omega))
          clear hi6 m6 hP hk5 hi5 hn5 hu5 hc5 ha5 hS5
          go_wp2_with fail
          refine (pending_any (w.heap.size + 1) g v6 L' _ HI6.out HO.out.len).mono ?_
          rintro e w7 ⟨r7, rfl, hr7, m7⟩
          have HI7 := Lib.hid (HI6.out.mod0 m7)
          go_wp2_with fail
          refine (confirmed_any (w.heap.size + 1) g v6 L' _ HI7.out).mono ?_
          rintro e w8 ⟨rfl, m8⟩
          have hS8 := storeNewCm w8 L'.confirmed _ HZ25.out
          have m9 := (m7.trans0 m8).alloc (.cells L'.confirmed.cells.toArray 25)
          have HI9 := Lib.hid (HI6.out.mod0 m9)
          have HX9 := Lib.hid (m9.get0 HX6.out)
          have M9 := M6.trans0 m9
          clear m7 m8 m9 HI7 hr7
          go_wp2_with fail
          go_roundw
          case rel => exact ⟨k + 1, v6, L', by omega, by go_num, HI9.out, HO.out, HX9.out, M9⟩
          case measure => simp [intOf]; omega
        · have hq := (hsame e0).symm
          subst hq
          have f1 : (er == 0) = false := by simpa using e0
          have f2 : (er != 0) = true := by simpa using e0
          clear e0 hsame
          refine hP.mono ?_
          rintro e w6 ⟨v6, rfl, hi6, m6, _⟩
          have HI6 := Lib.hid hi6
          have M6 := M5.trans m6 (fun x hx => .inr (by have := HI5.out.foot_base x hx; omega))
          have HX6 := Lib.hid (m6.get HX5.out (fun hx => by have := HI5.out.foot_base _ hx; omega))
          have HC6 := Lib.hid (m6.get HC5.out (fun hx => by have := LT5 _ hx; omega))
          have HR6 := Lib.hid (HR5.out.mod m6 (fun x hx hr => by have := LT5 x hx; have := HR5.out.row x hr; omega))
          clear hi6 m6 hP hk5 hi5 hn5 hu5 hc5 ha5 hS5
          go_wp2_with fail
          refine (pending_any (w.heap.size + 1) g v6 L _ HI6.out HK.out.len).mono ?_
          rintro e w7 ⟨r7, rfl, hr7, m7⟩
          have HI7 := Lib.hid (HI6.out.mod0 m7)
          go_wp2_with fail
          refine (confirmed_any (w.heap.size + 1) g v6 L _ HI7.out).mono ?_
          rintro e w8 ⟨rfl, m8⟩
          have hS8 := storeNewCm w8 L.confirmed _ HZ25.out
          have m9 := (m7.trans0 m8).alloc (.cells L.confirmed.cells.toArray 25)
          have HI9 := Lib.hid (HI6.out.mod0 m9)
          have HX9 := Lib.hid (m9.get0 HX6.out)
          have HC9 := Lib.hid (m9.get0 HC6.out)
          have HD9 := Lib.hid (hp_new w8 (.cells L.confirmed.cells.toArray 25) _ rfl)
          have M9 := M6.trans0 m9
          obtain ⟨p1, c1, rfl, hq1, _, _⟩ := (HR6.out.mod0 m9).rd
          obtain ⟨p2, c2, rfl, hq2, _, _⟩ := (hr7.mod0 (m8.alloc (.cells L.confirmed.cells.toArray 25))).rd
          have HQ1 := Lib.hid hq1
          have HQ2 := Lib.hid hq2
          clear m7 m8 m9 HI7 hr7 hq1 hq2
          go_wp2_with fail
          refine (same_refl p1 p2 c1 c2 L.pending _ HQ1.out HQ2.out HK.out.len).mono ?_
          rintro e w10 ⟨rfl, m10⟩
          have l18 := loadCm (range_blk (m10.get0 HD9.out) 0 _ (fun j u hu => by simpa using hu))
          have l9 := loadCm (range_blk (m10.get0 HC9.out) 0 _ (fun j u hu => by simpa using hu))
          have HI10 := Lib.hid (HI9.out.mod0 m10)
          have HX10 := Lib.hid (m10.get0 HX9.out)
          have M10 := M9.trans0 m10
          have nq := fun w => neqCm w L.confirmed
          have gq := guardCm
          clear m10 hS8
          go_wp2_with fail
          go_roundw
          case rel => exact ⟨k + 1, v6, L, by omega, by go_num, HI10.out, HK.out.up (Nat.le_succ _), HX10.out, M10⟩
          case measure => simp [intOf]; omega
      case inr.inr.inr.inr.inl =>
        go_wp2_with fail
        have hP := rel_step (w.heap.size + 1) g v L _ HI5.out (k + 1) (by omega) HK.out s.number
        obtain ⟨er, her⟩ : ∃ er, er = L.relErr s.number := ⟨_, rfl⟩
        obtain ⟨L', hL'⟩ : ∃ L', L' = L.afterRel s.number := ⟨_, rfl⟩
        have hsame : er ≠ 0 → L' = L := by
          intro h
          rw [hL']
          rw [her] at h
          exact if_neg h
        have HO := Lib.hid (show L'.Ok (k + 1 + 1) by rw [hL']; exact HK.out.rel _)
        rw [← her, ← hL'] at hP
        clear her hL'
        rcases Decidable.em (er = 0) with e0 | e0
        · subst e0
          clear hsame
          refine hP.mono ?_
          rintro e w6 ⟨v6, rfl, hi6, m6, _⟩
          have HI6 := Lib.hid hi6
          have M6 := M5.trans m6 (fun x hx => .inr (by have := HI5.out.foot_base x hx; omega))
          have HX6 := Lib.hid (m6.get HX5.out (fun hx => by have := HI5.out.foot_base _ hx; omega))
          clear hi6 m6 hP hk5 hi5 hn5 hu5 hc5 ha5 hS5
          go_wp2_with fail
          refine (pending_any (w.heap.size + 1) g v6 L' _ HI6.out HO.out.len).mono ?_
          rintro e w7 ⟨r7, rfl, hr7, m7⟩
          have HI7 := Lib.hid (HI6.out.mod0 m7)
          go_wp2_with fail
          refine (confirmed_any (w.heap.size + 1) g v6 L' _ HI7.out).mono ?_
          rintro e w8 ⟨rfl, m8⟩
          have hS8 := storeNewCm w8 L'.confirmed _ HZ25.out
          have m9 := (m7.trans0 m8).alloc (.cells L'.confirmed.cells.toArray 25)
          have HI9 := Lib.hid (HI6.out.mod0 m9)
          have HX9 := Lib.hid (m9.get0 HX6.out)
          have M9 := M6.trans0 m9
          clear m7 m8 m9 HI7 hr7
          go_wp2_with fail
          go_roundw
          case rel => exact ⟨k + 1, v6, L', by omega, by go_num, HI9.out, HO.out, HX9.out, M9⟩
          case measure => simp [intOf]; omega
        · have hq := (hsame e0).symm
          subst hq
          have f1 : (er == 0) = false := by simpa using e0
          have f2 : (er != 0) = true := by simpa using e0
          clear e0 hsame
          refine hP.mono ?_
          rintro e w6 ⟨v6, rfl, hi6, m6, _⟩
          have HI6 := Lib.hid hi6
          have M6 := M5.trans m6 (fun x hx => .inr (by have := HI5.out.foot_base x hx; omega))
          have HX6 := Lib.hid (m6.get HX5.out (fun hx => by have := HI5.out.foot_base _ hx; omega))
          have HC6 := Lib.hid (m6.get HC5.out (fun hx => by have := LT5 _ hx; omega))
          have HR6 := Lib.hid (HR5.out.mod m6 (fun x hx hr => by have := LT5 x hx; have := HR5.out.row x hr; omega))
          clear hi6 m6 hP hk5 hi5 hn5 hu5 hc5 ha5 hS5
          go_wp2_with fail
          refine (pending_any (w.heap.size + 1) g v6 L _ HI6.out HK.out.len).mono ?_
          rintro e w7 ⟨r7, rfl, hr7, m7⟩
          have HI7 := Lib.hid (HI6.out.mod0 m7)
          go_wp2_with fail
          refine (confirmed_any (w.heap.size + 1) g v6 L _ HI7.out).mono ?_
          rintro e w8 ⟨rfl, m8⟩
          have hS8 := storeNewCm w8 L.confirmed _ HZ25.out
          have m9 := (m7.trans0 m8).alloc (.cells L.confirmed.cells.toArray 25)
          have HI9 := Lib.hid (HI6.out.mod0 m9)
          have HX9 := Lib.hid (m9.get0 HX6.out)
          have HC9 := Lib.hid (m9.get0 HC6.out)
          have HD9 := Lib.hid (hp_new w8 (.cells L.confirmed.cells.toArray 25) _ rfl)
          have M9 := M6.trans0 m9
          obtain ⟨p1, c1, rfl, hq1, _, _⟩ := (HR6.out.mod0 m9).rd
          obtain ⟨p2, c2, rfl, hq2, _, _⟩ := (hr7.mod0 (m8.alloc (.cells L.confirmed.cells.toArray 25))).rd
          have HQ1 := Lib.hid hq1
          have HQ2 := Lib.hid hq2
          clear m7 m8 m9 HI7 hr7 hq1 hq2
          go_wp2_with fail
          refine (same_refl p1 p2 c1 c2 L.pending _ HQ1.out HQ2.out HK.out.len).mono ?_
          rintro e w10 ⟨rfl, m10⟩
          have l18 := loadCm (range_blk (m10.get0 HD9.out) 0 _ (fun j u hu => by simpa using hu))
          have l9 := loadCm (range_blk (m10.get0 HC9.out) 0 _ (fun j u hu => by simpa using hu))
          have HI10 := Lib.hid (HI9.out.mod0 m10)
          have HX10 := Lib.hid (m10.get0 HX9.out)
          have M10 := M9.trans0 m10
          have nq := fun w => neqCm w L.confirmed
          have gq := guardCm
          clear m10 hS8
          go_wp2_with fail
          go_roundw
          case rel => exact ⟨k + 1, v6, L, by omega, by go_num, HI10.out, HK.out.up (Nat.le_succ _), HX10.out, M10⟩
          case measure => simp [intOf]; omega
      case inr.inr.inr.inr.inr =>
        clear hi5 hn5 hu5 hc5 ha5
        go_wp2_with fail
        refine (pending_any (w.heap.size + 1) g v L _ HI5.out HK.out.len).mono ?_
        rintro e w7 ⟨r7, rfl, hr7, m7⟩
        have HI7 := Lib.hid (HI5.out.mod0 m7)
        go_wp2_with fail
        refine (confirmed_any (w.heap.size + 1) g v L _ HI7.out).mono ?_
        rintro e w8 ⟨rfl, m8⟩
        have hS8 := storeNewCm w8 L.confirmed _ HZ25.out
        have m9 := (m7.trans0 m8).alloc (.cells L.confirmed.cells.toArray 25)
        have HI9 := Lib.hid (HI5.out.mod0 m9)
        have HX9 := Lib.hid (m9.get0 HX5.out)
        have M9 := M5.trans0 m9
        clear m7 m8 m9 HI7 hr7
        go_wp2_with fail
        go_roundw
        case rel => exact ⟨k + 1, v, L, by omega, by go_num, HI9.out, HK.out.up (Nat.le_succ _), HX9.out, M9⟩
        case measure => simp [intOf]; omega
    · have hd : decide ((k : Int) < (xs.length : Int)) = false := by simp; omega
      go_wp2_with fail
      go_ret
      exact ⟨rfl, hm⟩
end Go.Proofs.Ytmjdfglidfdkaaa
