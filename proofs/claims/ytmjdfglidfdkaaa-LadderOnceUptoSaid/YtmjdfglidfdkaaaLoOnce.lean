/- LadderOnce, the walk. The condition: at most 2^20 steps. -/
import Derived.Test.YtmjdfglidfdkaaaLoMem2
import Derived.Test.YtmjdfglidfdkaaaCallStep
import Derived.Test.YtmjdfglidfdkaaaLoSame
namespace Go.Proofs.Ytmjdfglidfdkaaa
open Go.RowKit
attribute [local go_sem high] one8 st8 cm8 b_and8 b_and8r b_and8l b_or8 b_or8r b_or8l b_xor8 b_xor8r b_xor8l b_andNot8 b_andNot8r b_andNot8l b_add8 b_add8r b_add8l b_sub8 b_sub8r b_sub8l b_mul8 b_mul8r b_mul8l b_eql8 b_eql8r b_eql8l b_neq8 b_neq8r b_neq8l b_lss8 b_lss8r b_lss8l b_leq8 b_leq8r b_leq8l b_gtr8 b_gtr8r b_gtr8l b_geq8 b_geq8r b_geq8l b_quo8r b_rem8r b_shl8r b_shr8r b_shl8l b_shr8l u_xor8 g_eql8 g_neq8 g_eql8' g_neq8' one32 st32 cm32 b_and32 b_and32r b_and32l b_or32 b_or32r b_or32l b_xor32 b_xor32r b_xor32l b_andNot32 b_andNot32r b_andNot32l b_add32 b_add32r b_add32l b_sub32 b_sub32r b_sub32l b_mul32 b_mul32r b_mul32l b_eql32 b_eql32r b_eql32l b_neq32 b_neq32r b_neq32l b_lss32 b_lss32r b_lss32l b_leq32 b_leq32r b_leq32l b_gtr32 b_gtr32r b_gtr32l b_geq32 b_geq32r b_geq32l b_quo32r b_rem32r b_shl32r b_shr32r b_shl32l b_shr32l u_xor32 g_eql32 g_neq32 g_eql32' g_neq32' one64 st64 cm64 b_and64 b_and64r b_and64l b_or64 b_or64r b_or64l b_xor64 b_xor64r b_xor64l b_andNot64 b_andNot64r b_andNot64l b_add64 b_add64r b_add64l b_sub64 b_sub64r b_sub64l b_mul64 b_mul64r b_mul64l b_eql64 b_eql64r b_eql64l b_neq64 b_neq64r b_neq64l b_lss64 b_lss64r b_lss64l b_leq64 b_leq64r b_leq64l b_gtr64 b_gtr64r b_gtr64l b_geq64 b_geq64r b_geq64l b_quo64r b_rem64r b_shl64r b_shr64r b_shl64l b_shr64l u_xor64 g_eql64 g_neq64 g_eql64' g_neq64' c_u8_u8 c_u8_u32 c_u8_u64 c_i_u8 c_u32_u8 c_u32_u32 c_u32_u64 c_i_u32 c_u64_u8 c_u64_u32 c_u64_u64 c_i_u64 c_u8_i c_u32_i
attribute [local go_sem ↓] ce8 ce32 ce64
theorem loadO60 (p : Value) : Instr.loadAt 60 p = LoadO 60 p := rfl
theorem storeO60 (p v : Value) : Instr.storeAt 60 p v = StoreO 60 p v := rfl
theorem buildO60 (parts : Array (Nat × Value)) : Instr.build 60 parts = BuildO 60 parts := rfl
theorem buildSlO58 (n : Nat) (parts : Array (Nat × Value)) : Instr.buildSlice 58 n parts = BuildSlO 58 n parts := rfl
attribute [local go_sem ↓] sliced_slp loadO25 storeO25 loadO44 storeO44 loadO35 loadO84 storeO84 buildO44 buildO25 buildO35 buildO23 loadO37 storeO37 loadO60 storeO60 buildO60 buildSlO58
theorem live_take (bs : List Bk) (j : Nat) (y : Bk) (h : bs[j]? = some y) : live (bs.take (j + 1)) = live (bs.take j) + if (y.gone == 0) = true then 1 else 0 := by
  unfold live
  rw [List.take_add_one, h, List.filter_append, List.length_append]
  congr 1
  cases hg : (y.gone == 0) <;> simp [List.filter_cons, hg]
theorem live_le (bs : List Bk) : live bs ≤ bs.length := List.length_filter_le _ _
theorem bk_commit {w : World} {b o : Nat} {x : Bk} (h : w.rangeAt b o x.cells) : w.rangeAt b o x.commit.cells := fun j v hv => by
  have hj := (List.getElem?_eq_some_iff.1 hv).1
  refine h j v ?_
  unfold Bk.cells
  rw [List.getElem?_append_left hj, hv]
theorem callSame (xs : Array Value) (w : World) : (callFunc 19 xs).run Try.prog w = .ok (.enter 19 xs) w := by kernel_rfl
theorem infoBk3 : (Try.prog.info? 60).map (fun i => (i.zero, i.size, i.bytes)) = some (some (bv Bk.zero), 88, 120) := by kernel_rfl
/-- The book's block is none of the ladder's. -/
theorem book_off {w : World} {B B' g : Nat} {v vb : Value} {L : Lad} {bs : List Bk} (h : IsL w B g v L) (ho : OwnB w B' vb bs) : ∀ x ∈ foot g v, vb.ownBlock ≠ some x := by
  intro x hx hv
  obtain ⟨C, hb⟩ := ho.type x hv
  rcases mem_foot.1 hx with rfl | hx
  · exact ne_of_ty hb h.blk (by decide) rfl
  · obtain ⟨C', hb'⟩ := h.own.type x hx
    exact ne_of_ty hb hb' (by decide) rfl
theorem conf_post (L : Lad) (c : Cm) (by_ : A20) (inbox now : Int) : (L.afterPost c by_ inbox now).confirmed = L.confirmed := by
  unfold Lad.afterPost; split <;> rfl
theorem conf_drop (L : Lad) (k : Int) : (L.afterDrop k).confirmed = L.confirmed := by
  unfold Lad.afterDrop; split <;> rfl
theorem conf_duel (L : Lad) (k d : Int) : (L.duel k d).confirmed = L.confirmed := by
  unfold Lad.duel; split
  · rfl
  · split <;> rfl
theorem conf_hold (L : Lad) (k now : Int) : (L.afterHold k now).confirmed = L.confirmed := by
  unfold Lad.afterHold; split
  · exact conf_duel _ _ _
  · rfl
theorem conf_rel (L : Lad) (k : Int) : (L.afterRel k).confirmed = L.confirmed := by
  unfold Lad.afterRel; split
  · exact conf_duel _ _ _
  · rfl
theorem Book.hold {bs : List Bk} {L : Lad} (h : Book bs L) (k now : Int) : Book bs (L.afterHold k now) := by
  unfold Lad.afterHold; split
  · exact h.duel _ _
  · exact h
theorem Book.rel {bs : List Bk} {L : Lad} (h : Book bs L) (k : Int) : Book bs (L.afterRel k) := by
  unfold Lad.afterRel; split
  · exact h.duel _ _
  · exact h
set_option maxRecDepth 100000 in
set_option maxHeartbeats 4000000 in
theorem once_main (c : Cm) (z : Int) (p : Option Addr) (cap : Nat) (xs : List St) (w : World) (h : newErr c z = 0) (hr : RdN 94 St.cells w p cap xs) (hl : xs.length ≤ 1048576) :
    Calls Try.prog 7 #[scv c z p xs.length cap] w fun e w' => e = .returned (.bool true) ∧ Mod [] w w' := by
  have HN := Lib.hid (fun w1 (hB : w.heap.size + 1 ≤ w1.heap.size) => new_yes (w.heap.size + 1) c z w1 h hB)
  have HA := Lib.hid awake_any
  have HL := Lib.hid (fun (w1 : World) (h1 : w1.heap[w.heap.size]? = some (.cells (scells c z p xs.length cap).toArray 28 (0, 0))) => sc_load h1)
  have HC := Lib.hid (fun (w1 : World) (h1 : w1.heap[w.heap.size]? = some (.cells (scells c z p xs.length cap).toArray 28 (0, 0))) => (show w1.cell? ⟨w.heap.size, 0, none⟩ = some (.int .i64 c.count) by rw [cell_blk h1, List.getElem?_toArray]; rfl))
  have HR := Lib.hid hr
  have HOK := Lib.hid (Ok0 h)
  have HF0 := Lib.hid (show Fine ⟨c, [], z, 0, 0⟩ z from ⟨rfl, trivial, fun _ h => by simp at h⟩)
  have HBK0 := Lib.hid (Book.nil c z)
  obtain ⟨cs, hcs⟩ : ∃ cs, cs = scells c z p xs.length cap := ⟨_, rfl⟩
  unfold scv
  rw [show c.cells ++ [Value.int .i64 z, Value.slice p xs.length cap] = cs from hcs.symm]
  rw [← hcs] at HL HC
  have HZ25 := Lib.hid (show Try.zeroCells25.size = 66 by kernel_rfl)
  have HZ44 := Lib.hid (show Try.zeroCells44.size = 90 by kernel_rfl)
  have HZ37 := Lib.hid (show Try.zeroCells37.size = 94 by kernel_rfl)
  have HZ60 := Lib.hid (show Try.zeroCells60.size = 88 by kernel_rfl)
  clear h hcs hr
  go_enter Try.func7, Try.ntmps7
  go_wp2_with fail
  refine (HA.out _).mono ?_
  rintro e w1 ⟨rfl, m1⟩
  obtain ⟨l1, l2, l3⟩ := HL.out w1 (m1.get0 (hp_new _ _ _ rfl))
  have M1 := ((Mod.refl [] w).alloc (.cells cs.toArray 28)).trans0 m1
  have HX1 := Lib.hid (m1.get0 (hp_new w (.cells cs.toArray 28) _ rfl))
  have S1 : w.heap.size + 1 ≤ w1.heap.size := lt_of_block HX1.out
  clear m1
  go_wp2_with fail
  refine (HN.out _ S1).mono ?_
  rintro e w2 ⟨g, rfl, hg, hl2, m2⟩
  have HX2 := Lib.hid (m2.get0 HX1.out)
  have k0 := HC.out w2 HX2.out
  have M2 := M1.trans0 m2
  have HI2 := Lib.hid hl2
  clear l1 l2 l3 M1 HX1 m2 hl2 hg
  go_wp2_with fail
  clear k0
  go_loopw [6, 7, 8] (fun bv' cv' iv wr => ∃ (k : Nat) (v vb vo : Value) (L : Lad) (bs : List Bk), k ≤ xs.length ∧ bv' = vo ∧ vo = vb ∧ cv' = .int .i64 L.confirmed.count ∧ iv = .int .i64 k ∧ IsL wr (w.heap.size + 1) g v L ∧ L.Ok (k + 1) ∧ Fine L z ∧ Book bs L ∧ bs.length ≤ k ∧ OwnB wr (w.heap.size + 1) vb bs ∧ wr.heap[w.heap.size]? = some (.cells cs.toArray 28 (0, 0)) ∧ Mod [] w wr) (fun _ _ iv _ => xs.length - (intOf iv).toNat)
  case atStart => exact ⟨0, _, _, _, _, _, by omega, rfl, rfl, rfl, rfl, HI2.out, HOK.out, HF0.out, HBK0.out, by simp, OwnN.nil _ _ _ _ _, HX2.out, M2⟩
  case round =>
    obtain ⟨k, v, vb, vo, L, bs, hk, rfl, rfl, rfl, rfl, hi, hok, hfi, hbk, hbl, hob, hx, hm⟩ := hrel
    obtain ⟨l1, l2, l3⟩ := HL.out wr hx
    have HI := Lib.hid hi
    have HK := Lib.hid hok
    have HF := Lib.hid hfi
    have HBK := Lib.hid hbk
    have HOB := Lib.hid hob
    have HX := Lib.hid hx
    clear hi hok hfi hbk hob hx HI2 HX2 M2 l1 l2
    by_cases hlt : k < xs.length
    · obtain ⟨s, hsk⟩ : ∃ s, xs[k]? = some s := ⟨xs[k], List.getElem?_eq_getElem hlt⟩
      obtain ⟨b', o', rfl, hrg⟩ := HR.out.elem St.len k s hsk
      have hL := loadSt (range_mod hm hrg (by simp))
      have hS := storeNewSt wr s _ HZ37.out
      have M3 := hm.alloc (.cells s.cells.toArray 37)
      have HI3 := Lib.hid (HI.out.mod0 ((Mod.refl [] wr).alloc (.cells s.cells.toArray 37)))
      have HX3 := Lib.hid (hp_old (o := .cells s.cells.toArray 37) HX.out)
      have HS3 := Lib.hid (hp_new wr (.cells s.cells.toArray 37) _ rfl)
      have LT5 : ∀ x ∈ foot g v, x < wr.heap.size := HI.out.foot_lt
      have LB5 : ∀ x, u6.ownBlock = some x → x < wr.heap.size := HOB.out.lt
      clear hrg hsk hm
      go_wp2_with fail
      refine (pending_any (w.heap.size + 1) g v L _ HI3.out HK.out.len).mono ?_
      rintro e w5 ⟨r, rfl, hr4, m4⟩
      have HI5 := Lib.hid (HI3.out.mod0 m4)
      have HX5 := Lib.hid (m4.get0 HX3.out)
      have HSB5 := Lib.hid (m4.get0 HS3.out)
      have HR5 := Lib.hid (hr4.mono (Nat.le_of_lt (lt_of_block HS3.out)))
      have HOB5 := Lib.hid ((HOB.out.alloc (.cells s.cells.toArray 37)).mod0 m4)
      have M5 := M3.trans0 m4
      have S5 : wr.heap.size < w5.heap.size := lt_of_block HSB5.out
      have hbox := box_st HSB5.out
      have hk5 := hbox.k
      have hi5 := hbox.i
      have hn5 := hbox.n
      have hu5 := hbox.u
      have hc5 := hbox.c
      have ha5 := hbox.a
      clear hL hS hr4 m4 HI3 HX3 HS3 M3 hbox HI HX HOB
      have hways : ((s.kind == 1) = true) ∨ ((s.kind == 1) = false ∧ (s.kind == 2) = true) ∨ ((s.kind == 1) = false ∧ (s.kind == 2) = false ∧ (s.kind == 3) = true) ∨ ((s.kind == 1) = false ∧ (s.kind == 2) = false ∧ (s.kind == 3) = false ∧ (s.kind == 4) = true) ∨ ((s.kind == 1) = false ∧ (s.kind == 2) = false ∧ (s.kind == 3) = false ∧ (s.kind == 4) = false ∧ (s.kind == 5) = true) ∨ ((s.kind == 1) = false ∧ (s.kind == 2) = false ∧ (s.kind == 3) = false ∧ (s.kind == 4) = false ∧ (s.kind == 5) = false) := by
        cases (s.kind == 1) <;> cases (s.kind == 2) <;> cases (s.kind == 3) <;> cases (s.kind == 4) <;> cases (s.kind == 5) <;> simp
      rcases hways with d1 | ⟨d1, d2⟩ | ⟨d1, d2, d3⟩ | ⟨d1, d2, d3, d4⟩ | ⟨d1, d2, d3, d4, d5⟩ | ⟨d1, d2, d3, d4, d5⟩
      case inl => as_aux_lemma =>
        go_wp2_with fail
        have hP := post_step (w.heap.size + 1) g v L _ HI5.out (k + 1) (by omega) HK.out s.commit s.by_ s.inbox s.now
        have HO := Lib.hid (HK.out.post s.commit s.by_ s.inbox s.now)
        have HF6 := Lib.hid (HF.out.post HK.out s.commit s.by_ s.inbox s.now)
        have hcf := conf_post L s.commit s.by_ s.inbox s.now
        by_cases he : L.postErr s.commit s.inbox s.now = 0
        · have hib : decide (s.inbox < s.commit.count) = false := by
            unfold Lad.postErr at he
            split at he
            · cases he
            split at he
            · cases he
            split at he
            · cases he
            simp; omega
          have hnum : L.numPost s.commit s.inbox s.now = (bs.length : Int) + 1 := by unfold Lad.numPost; rw [if_pos he, HBK.out.len]
          have hpo : L.afterPost s.commit s.by_ s.inbox s.now = L.posted s.commit s.by_ s.now := if_pos he
          have HBK6 := Lib.hid (show Book (bs ++ [⟨s.commit, s.by_, s.now, 0⟩]) (L.afterPost s.commit s.by_ s.inbox s.now) by rw [hpo]; exact HBK.out.posted _ _ _)
          rw [he, hnum] at hP
          obtain ⟨L', hL'⟩ : ∃ L', L' = L.afterPost s.commit s.by_ s.inbox s.now := ⟨_, rfl⟩
          rw [← hL'] at hP HO HF6 hcf HBK6
          clear hL' hpo he hnum
          refine hP.mono ?_
          rintro e w6 ⟨v6, rfl, hi6, m6, _⟩
          have HI6 := Lib.hid hi6
          have M6 := M5.trans m6 (fun x hx => .inr (by have := HI5.out.foot_base x hx; omega))
          have HX6 := Lib.hid (m6.get HX5.out (fun hx => by have := HI5.out.foot_base _ hx; omega))
          have HOB6 := Lib.hid (HOB5.out.mod m6 (book_off HI5.out HOB5.out))
          have hbox := box_st (m6.get HSB5.out (fun hx => by have := LT5 _ hx; omega))
          have T6 : w.heap.size + 1 ≤ w6.heap.size := lt_of_block HX6.out
          clear hP hi6 hk5 hi5 hn5 hu5 hc5 ha5
          have HBX := Lib.hid hbox
          have hk5 := hbox.k
          have hn5 := hbox.n
          have hc5 := hbox.c
          have ha5 := hbox.a
          have hbk := run_bk s.commit s.by_ s.now
          have hsl := run_slBk w6 ⟨s.commit, s.by_, s.now, 0⟩
          clear hbox
          go_wp2_with (at_builtin; with_reducible refine froz_app _ _ rfl ?_)
          unfold Froz
          refine wpList_pushN (bv Bk.zero) 120 Try.underlying58 infoBk3 (by rw [bv]; exact Bk.zero.len) (by decide) Bk.len Bk.one rfl _ _ rfl (w.heap.size + 1) _ bs (HOB6.out.alloc _) rfl w6.heap.size 0 1 1 [⟨s.commit, s.by_, s.now, 0⟩] rfl rfl (range_blk (hp_new _ _ _ rfl) 0 _ (fun j u hu => by simpa using hu)) (by unfold maxLen; simp; omega) (by simp; omega) (by simp; omega) ?_
          intro v' w7 ho7 hg7
          have hm7 : Mod u6.ownBlock.toList w6 w7 := (((Mod.refl u6.ownBlock.toList w6).alloc _)).of_grown hg7 (fun g hg => .inl (by rw [hg]; simp))
          have hoff := book_off HI6.out HOB6.out
          have hno : ∀ x ∈ u6.ownBlock.toList, x ∉ foot g v6 := fun x hx hf => hoff x hf (by simpa using hx)
          have HI7a := Lib.hid (HI6.out.mod hm7 (fun hx => hno _ hx (mem_foot.2 (.inl rfl))) (fun x hx hv => hno x hx (mem_foot.2 (.inr hv))))
          have HX7 := Lib.hid (hm7.get HX6.out (fun hx => by have := HOB6.out.row _ (by simpa using hx); omega))
          have M7 := M6.trans hm7 (fun x hx => .inr (by have := HOB6.out.row _ (by simpa using hx); omega))
          have hbl2 : ((bs ++ [(⟨s.commit, s.by_, s.now, 0⟩ : Bk)]).length) = bs.length + 1 := by simp
          obtain ⟨p8, cap8, hv8, _⟩ := ho7.rd
          have hv9 : v' = .slice p8 (bs.length + 1) cap8 := by rw [hv8, hbl2]
          clear hv8
          subst hv9
          have HOB7 := Lib.hid ho7
          obtain ⟨t1, t2, t3⟩ := HL.out w7 HX7.out
          have HSB7 := hm7.get (m6.get HSB5.out (fun hx => by have := LT5 _ hx; omega)) (fun hx => by have := LB5 _ (by simpa using hx); omega)
          have j7 := (box_st HSB7).i
          have j8 : w7.cell? ⟨wr.heap.size, 3, none⟩ = some (.int .i64 s.commit.count) := by rw [cell_blk HSB7]; rfl
          clear t1 t3 HSB7
          go_wp2_with fail
          refine (shape_any (w.heap.size + 1) g v6 L' z (k + 1 + 1) w7 HI7a.out HO.out HF6.out).mono ?_
          rintro e w9 ⟨rfl, m7⟩
          have HI7 := Lib.hid (HI7a.out.mod0 m7)
          clear t2
          go_wp2_with fail
          refine (confirmed_any (w.heap.size + 1) g v6 L' _ HI7.out).mono ?_
          rintro e w10 ⟨rfl, m8⟩
          have hS8 := storeNewCm w10 L'.confirmed _ HZ25.out
          have m9 := (m7.trans0 m8).alloc (.cells L'.confirmed.cells.toArray 25)
          have hq8 : (w10.alloc (.cells L'.confirmed.cells.toArray 25)).cell? ⟨w10.heap.size, 0, none⟩ = some (.int .i64 L'.confirmed.count) := (box_cm w10 L'.confirmed).1
          have HI9 := Lib.hid (HI7a.out.mod0 m9)
          have HX9 := Lib.hid (m9.get0 HX7.out)
          have HOB9 := Lib.hid (HOB7.out.mod0 m9)
          have M9 := M7.trans0 m9
          rw [hcf] at hS8 hq8 HI9 HX9 HOB9 M9 ⊢
          clear m7 m8 m9 HI7
          go_wp2_with fail
          go_roundw
          case rel => exact ⟨k + 1, v6, _, _, L', _, by omega, rfl, rfl, by rw [hcf], by go_num, HI9.out, HO.out, HF6.out, HBK6.out, by omega, HOB9.out, HX9.out, M9⟩
          case measure => simp [intOf]; omega
        · have hpo : L.afterPost s.commit s.by_ s.inbox s.now = L := if_neg he
          have HBK6 := Lib.hid (show Book bs (L.afterPost s.commit s.by_ s.inbox s.now) by rw [hpo]; exact HBK.out)
          obtain ⟨er, her⟩ : ∃ er, er = L.postErr s.commit s.inbox s.now := ⟨_, rfl⟩
          obtain ⟨nu, hnu⟩ : ∃ nu, nu = L.numPost s.commit s.inbox s.now := ⟨_, rfl⟩
          obtain ⟨L', hL'⟩ : ∃ L', L' = L.afterPost s.commit s.by_ s.inbox s.now := ⟨_, rfl⟩
          rw [← her] at he hP
          rw [← hnu] at hP
          rw [← hL'] at hP HO HF6 hcf HBK6
          have he2 : (er == 0) = false := by simpa using he
          clear her hnu hpo he hL'
          refine hP.mono ?_
          rintro e w6 ⟨v6, rfl, hi6, m6, _⟩
          have HI6 := Lib.hid hi6
          have M6 := M5.trans m6 (fun x hx => .inr (by have := HI5.out.foot_base x hx; omega))
          have HX6 := Lib.hid (m6.get HX5.out (fun hx => by have := HI5.out.foot_base _ hx; omega))
          have HOB6 := Lib.hid (HOB5.out.mod m6 (book_off HI5.out HOB5.out))
          clear hP hi6 m6 hk5 hi5 hn5 hu5 hc5 ha5
          obtain ⟨t1, t2, t3⟩ := HL.out w6 HX6.out
          clear t1 t3
          go_wp2_with fail
          refine (shape_any (w.heap.size + 1) g v6 L' z (k + 1 + 1) w6 HI6.out HO.out HF6.out).mono ?_
          rintro e wa ⟨rfl, ma⟩
          have HIA := Lib.hid (HI6.out.mod0 ma)
          clear t2
          go_wp2_with fail
          refine (confirmed_any (w.heap.size + 1) g v6 L' _ HIA.out).mono ?_
          rintro e wb ⟨rfl, mb⟩
          have hSb := storeNewCm wb L'.confirmed _ HZ25.out
          have mc := (ma.trans0 mb).alloc (.cells L'.confirmed.cells.toArray 25)
          have hqb : (wb.alloc (.cells L'.confirmed.cells.toArray 25)).cell? ⟨wb.heap.size, 0, none⟩ = some (.int .i64 L'.confirmed.count) := (box_cm wb L'.confirmed).1
          have HIC := Lib.hid (HI6.out.mod0 mc)
          have HXC := Lib.hid (mc.get0 HX6.out)
          have HOBC := Lib.hid (HOB6.out.mod0 mc)
          have MC := M6.trans0 mc
          rw [hcf] at hSb hqb HIC HXC HOBC MC ⊢
          clear ma mb mc HIA
          go_wp2_with fail
          go_roundw
          case rel => exact ⟨k + 1, v6, _, _, L', bs, by omega, rfl, rfl, by rw [hcf], by go_num, HIC.out, HO.out, HF6.out, HBK6.out, by first | omega | (simp; omega), HOBC.out, HXC.out, MC⟩
          case measure => simp [intOf]; omega
      case inr.inl => as_aux_lemma =>
        go_wp2_with fail
        have hP := conf_step (w.heap.size + 1) g v L _ HI5.out (k + 1) HK.out s.now
        have HO := Lib.hid (HK.out.conf s.now)
        have HF6 := Lib.hid (HF.out.conf s.now)
        by_cases he : L.confErr s.now = 0
        · obtain ⟨x, r', i, hpe, hout, hcf, hdu, hdl, hlo, hnu, hbi, hbk⟩ := conf_zero HF.out HK.out HBK.out he
          have HBK6 := Lib.hid hbk
          obtain ⟨L', hL'⟩ : ∃ L', L' = L.afterConf s.now := ⟨_, rfl⟩
          rw [he, hout, ← hL'] at hP
          rw [← hL'] at HO HF6 hcf HBK6
          clear hL' hbk he hout
          refine hP.mono ?_
          rintro e w6 ⟨v6, rfl, hi6, m6, _⟩
          have HI6 := Lib.hid hi6
          have M6 := M5.trans m6 (fun x hx => .inr (by have := HI5.out.foot_base x hx; omega))
          have HX6 := Lib.hid (m6.get HX5.out (fun hx => by have := HI5.out.foot_base _ hx; omega))
          have HOB6 := Lib.hid (HOB5.out.mod m6 (book_off HI5.out HOB5.out))
          have HSB6 := Lib.hid (m6.get HSB5.out (fun hx => by have := LT5 _ hx; omega))
          have T6 : w.heap.size + 1 ≤ w6.heap.size := lt_of_block HX6.out
          have U6 : wr.heap.size < w6.heap.size := lt_of_block HSB6.out
          obtain ⟨pr, cr, hrv, hrd, hro, _⟩ := HR5.out.rd
          subst hrv
          obtain ⟨br, or_, hpr, hrg⟩ := hrd.elem Pd.len 0 x (by rw [hpe]; rfl)
          subst hpr
          have hrr : br ≥ wr.heap.size := (hro _ rfl).1
          have hrg6 := range_mod m6 hrg (fun hx => by have := LT5 _ hx; omega)
          rw [Nat.zero_mul, Nat.add_zero] at hrg6
          obtain ⟨bb, capb, hu6, hrgb, hbB, C, hbC, hC⟩ := ownB_at HOB6.out i _ hbi
          subst hu6
          have hS6 := storeNewPd w6 x _ HZ44.out
          obtain ⟨w7, hw7⟩ : ∃ W, W = w6.alloc (.cells x.cells.toArray 44) := ⟨_, rfl⟩
          rw [← hw7] at hS6
          have m7 : Mod [] w6 w7 := by rw [hw7]; exact (Mod.refl [] w6).alloc _
          have hb7 : w7.heap[w6.heap.size]? = some (.cells x.cells.toArray 44 (0, 0)) := by rw [hw7]; exact hp_new w6 _ _ rfl
          have M7 := Lib.hid m7
          have HB7 := Lib.hid hb7
          have L1 := (box_pd (hp_drew hb7)).a
          have L2 := loadPd (range_mod m7.drew hrg6 (by simp))
          have c0 := (box_pd (hp_drew hb7)).n
          have c89 := (box_pd (hp_drew hb7)).u
          rw [hnu] at c0
          rw [hdu] at c89
          have e1 := fun w => neqPd w x
          have g1 := guardPd
          have hbs : i < bs.length := (List.getElem?_eq_some_iff.1 hbi).1
          have HRGB := Lib.hid hrgb
          have HBI := Lib.hid hbi
          have HBC := Lib.hid hbC
          have HPE := Lib.hid hpe
          have HNU := Lib.hid hnu
          have hlen : ((L.pending.length : Int) == 0) = false := by rw [beq_eq_false_iff_ne, hpe]; simp; omega
          have hpos : 0 < L.pending.length := by rw [hpe]; simp
          have dn1 : decide ((i : Int) + 1 < 1) = false := by simp; omega
          have dn3 : decide ((i : Int) < 0) = false := by simp
          have dn2 : decide ((bs.length : Int) < (i : Int) + 1) = false := by simp; omega
          clear hw7 m7 hb7 hrg6 hrg hrd hro hpe hnu hdu hi6 m6 hP hk5 hi5 hn5 hu5 hc5 ha5 hbi hrgb hbC
          go_wp2_with fail
          go_region
          obtain ⟨w8, hw8⟩ : ∃ W, W = w7.drew := ⟨_, rfl⟩
          rw [← hw8]
          have M8 : Mod [] w6 w8 := by rw [hw8]; exact M7.out.drew
          have hb8 : w8.heap[w6.heap.size]? = some (.cells x.cells.toArray 44 (0, 0)) := by rw [hw8]; exact hp_drew HB7.out
          have S8 : w6.heap.size < w8.heap.size := lt_of_block hb8
          have LB := loadBk (range_mod M8 HRGB.out (by simp))
          have hS8 := storeNewBk w8 ⟨x.commit, x.poster, x.posted, 0⟩ _ HZ60.out
          obtain ⟨w9, hw9⟩ : ∃ W, W = w8.alloc (.cells (Bk.cells ⟨x.commit, x.poster, x.posted, 0⟩).toArray 60) := ⟨_, rfl⟩
          rw [← hw9] at hS8
          have M9 : Mod [] w6 w9 := by rw [hw9]; exact M8.alloc _
          have hb9 : w9.heap[w6.heap.size]? = some (.cells x.cells.toArray 44 (0, 0)) := by rw [hw9]; exact hp_old hb8
          have hk9 : w9.heap[w8.heap.size]? = some (.cells (Bk.cells ⟨x.commit, x.poster, x.posted, 0⟩).toArray 60 (0, 0)) := by rw [hw9]; exact hp_new w8 _ _ rfl
          clear L1 L2 c0 c89 hS6 hw9 hw8
          have c0 : w9.cell? ⟨w6.heap.size, 0, none⟩ = some (.int .i64 ((i : Int) + 1)) := by rw [(box_pd hb9).n, HNU.out]
          have c0' : w8.cell? ⟨w6.heap.size, 0, none⟩ = some (.int .i64 ((i : Int) + 1)) := by rw [(box_pd hb8).n, HNU.out]
          have c1 := (box_pd hb9).c
          have c87 := (box_pd hb9).p
          have c88 := (box_pd hb9).d
          have l1 := (box_pd hb9).m
          have l2 := box_poster hb9
          have l3' := (box_bk hk9).c
          have l4 := (box_bk hk9).a
          have k86 := (box_bk hk9).n
          have k87 := (box_bk hk9).g
          have s90 : w9.cell? ⟨wr.heap.size, 90, none⟩ = some (.int .i64 s.now) := (box_st (M9.get0 HSB6.out)).n
          have e2 := fun w => neqCm w x.commit
          have g2 := guardCm
          have e3 := fun w => neqAdr w x.poster
          have g3 := guardAdr
          have dd1 : decide (s.now < x.deadline) = false := by simp; omega
          have dd2 : decide (x.commit.count ≤ L.confirmed.count) = false := by simp; omega
          have b87 := range_cell (range_mod M9 HRGB.out (by simp)) 87 _ (Bk.c87 _)
          have f87 : w9.frozen? ⟨bb, i * 88 + 87, none⟩ = false := frozen_blk (M9.get0 HBC.out) _
          have hbb : bb < w6.heap.size := lt_of_block HBC.out
          have hne1 : ¬ w6.heap.size = bb := by omega
          have hne2 : ¬ bb = w6.heap.size := by omega
          have HM9 := Lib.hid M9
          clear M8 M9 hb8 hb9 hk9
          obtain ⟨w10, hw10⟩ : ∃ W, W = w9.setCell ⟨bb, i * 88 + 87, none⟩ (.int .i64 1) := ⟨_, rfl⟩
          have m10 : Mod [bb] w6 w10 := by rw [hw10]; exact (HM9.out.mono (by simp)).setCell (.inl (by simp)) _
          have hoff := book_off HI6.out HOB6.out
          have hno : ∀ y ∈ [bb], y ∉ foot g v6 := fun y hy hf => hoff y hf (by simp at hy; subst hy; rfl)
          have HI10 := Lib.hid (HI6.out.mod m10 (fun hx => hno _ hx (mem_foot.2 (.inl rfl))) (fun x hx hv => hno x hx (mem_foot.2 (.inr hv))))
          have HX10 := Lib.hid (m10.get HX6.out (by simp; omega))
          have HOB10 := Lib.hid (show OwnB w10 (w.heap.size + 1) (.slice (some ⟨bb, 0, none⟩) bs.length capb) (bs.set i ⟨x.commit, x.poster, x.posted, 1⟩) by rw [hw10]; exact ownB_set (HOB6.out.mod0 HM9.out) i _ HBI.out 1)
          have M10 := M6.trans m10 (fun y hy => .inr (by simp at hy; subst hy; omega))
          clear m10 hno hoff
          obtain ⟨t1, t2, t3⟩ := HL.out w10 HX10.out
          clear t1 t3
          rw [hw10] at t2
          go_wp2_with fail
          rw [← hw10]
          clear hw10
          refine (shape_any (w.heap.size + 1) g v6 L' z (k + 1 + 1) w10 HI10.out HO.out HF6.out).mono ?_
          rintro e wa ⟨rfl, ma⟩
          have HIA := Lib.hid (HI10.out.mod0 ma)
          clear t2
          go_wp2_with fail
          refine (confirmed_any (w.heap.size + 1) g v6 L' _ HIA.out).mono ?_
          rintro e wb ⟨rfl, mb⟩
          have hSb := storeNewCm wb L'.confirmed _ HZ25.out
          have mc := (ma.trans0 mb).alloc (.cells L'.confirmed.cells.toArray 25)
          have hqb : (wb.alloc (.cells L'.confirmed.cells.toArray 25)).cell? ⟨wb.heap.size, 0, none⟩ = some (.int .i64 L'.confirmed.count) := (box_cm wb L'.confirmed).1
          have HIC := Lib.hid (HI10.out.mod0 mc)
          have HXC := Lib.hid (mc.get0 HX10.out)
          have HOBC := Lib.hid (HOB10.out.mod0 mc)
          have MC := M10.trans0 mc
          rw [hcf] at hSb hqb HIC HXC HOBC MC ⊢
          clear ma mb mc HIA
          go_wp2_with fail
          go_roundw
          case rel => exact ⟨k + 1, v6, _, _, L', bs.set i ⟨x.commit, x.poster, x.posted, 1⟩, by omega, rfl, rfl, by rw [hcf], by go_num, HIC.out, HO.out, HF6.out, HBK6.out, by first | omega | (simp; omega), HOBC.out, HXC.out, MC⟩
          case measure => simp [intOf]; omega
        · have hpo : L.afterConf s.now = L := if_neg he
          have hcf : (L.afterConf s.now).confirmed = L.confirmed := by rw [hpo]
          have HBK6 := Lib.hid (show Book bs (L.afterConf s.now) by rw [hpo]; exact HBK.out)
          obtain ⟨er, her⟩ : ∃ er, er = L.confErr s.now := ⟨_, rfl⟩
          obtain ⟨x, hx⟩ : ∃ x, x = L.outConf s.now := ⟨_, rfl⟩
          obtain ⟨L', hL'⟩ : ∃ L', L' = L.afterConf s.now := ⟨_, rfl⟩
          rw [← her] at he hP
          rw [← hx] at hP
          rw [← hL'] at hP HO HF6 hcf HBK6
          have he2 : (er == 0) = false := by simpa using he
          clear her hx hpo he hL'
          refine hP.mono ?_
          rintro e w6 ⟨v6, rfl, hi6, m6, _⟩
          have hS6 := storeNewPd w6 x _ HZ44.out
          have HI6 := Lib.hid (hi6.mod0 ((Mod.refl [] w6).alloc (.cells x.cells.toArray 44)))
          have M6 := (M5.trans m6 (fun x hx => .inr (by have := HI5.out.foot_base x hx; omega))).alloc (.cells x.cells.toArray 44)
          have HX6 := Lib.hid (hp_old (o := .cells x.cells.toArray 44) (m6.get HX5.out (fun hx => by have := HI5.out.foot_base _ hx; omega)))
          have HOB6 := Lib.hid ((HOB5.out.mod m6 (book_off HI5.out HOB5.out)).alloc (.cells x.cells.toArray 44))
          obtain ⟨w7, hw7⟩ : ∃ W, W = w6.alloc (.cells x.cells.toArray 44) := ⟨_, rfl⟩
          rw [← hw7] at hS6 HI6 M6 HX6 HOB6
          clear hP hi6 m6 hk5 hi5 hn5 hu5 hc5 ha5 hw7
          obtain ⟨t1, t2, t3⟩ := HL.out w7 HX6.out
          clear t1 t3
          go_wp2_with fail
          refine (shape_any (w.heap.size + 1) g v6 L' z (k + 1 + 1) w7 HI6.out HO.out HF6.out).mono ?_
          rintro e wa ⟨rfl, ma⟩
          have HIA := Lib.hid (HI6.out.mod0 ma)
          clear t2
          go_wp2_with fail
          refine (confirmed_any (w.heap.size + 1) g v6 L' _ HIA.out).mono ?_
          rintro e wb ⟨rfl, mb⟩
          have hSb := storeNewCm wb L'.confirmed _ HZ25.out
          have mc := (ma.trans0 mb).alloc (.cells L'.confirmed.cells.toArray 25)
          have hqb : (wb.alloc (.cells L'.confirmed.cells.toArray 25)).cell? ⟨wb.heap.size, 0, none⟩ = some (.int .i64 L'.confirmed.count) := (box_cm wb L'.confirmed).1
          have HIC := Lib.hid (HI6.out.mod0 mc)
          have HXC := Lib.hid (mc.get0 HX6.out)
          have HOBC := Lib.hid (HOB6.out.mod0 mc)
          have MC := M6.trans0 mc
          rw [hcf] at hSb hqb HIC HXC HOBC MC ⊢
          clear ma mb mc HIA
          go_wp2_with fail
          go_roundw
          case rel => exact ⟨k + 1, v6, _, _, L', bs, by omega, rfl, rfl, by rw [hcf], by go_num, HIC.out, HO.out, HF6.out, HBK6.out, by first | omega | (simp; omega), HOBC.out, HXC.out, MC⟩
          case measure => simp [intOf]; omega
      case inr.inr.inl => as_aux_lemma =>
        go_wp2_with fail
        have hP := drop_step (w.heap.size + 1) g v L _ HI5.out (k + 1) HK.out s.number
        have HO := Lib.hid (HK.out.drop s.number)
        have HF6 := Lib.hid (HF.out.drop s.number)
        have hcf := conf_drop L s.number
        by_cases he : L.dropErr s.number = 0
        · obtain ⟨i, x, hxi, hxn, hout, haf⟩ := drop_zero he
          have hil : i < L.pending.length := (List.getElem?_eq_some_iff.1 hxi).1
          obtain ⟨D, hD⟩ : ∃ D, D = L.pending.drop i := ⟨_, rfl⟩
          obtain ⟨L', hL'⟩ : ∃ L', L' = L.afterDrop s.number := ⟨_, rfl⟩
          have HPT := Lib.hid (show Book.Part bs L.given (L.pending.take i) (D.drop 0) by rw [hD, List.drop_zero]; exact HBK.out.part i)
          have HEND := Lib.hid (fun (b2 : List Bk) (hp : Book.Part b2 L.given (L.pending.take i) []) => show Book b2 L' by rw [hL', haf]; exact Book.ofPart hp)
          have HNX := Lib.hid (fun (b2 : List Bk) (j : Nat) (y : Pd) (hp : Book.Part b2 L.given (L.pending.take i) (D.drop j)) (hy : D[j]? = some y) => show ∃ k : Nat, y.number = (k : Int) + 1 ∧ b2[k]? = some ⟨y.commit, y.poster, y.posted, 0⟩ ∧ Book.Part (b2.set k ⟨y.commit, y.poster, y.posted, 2⟩) L.given (L.pending.take i) (D.drop (j + 1)) by rw [hD] at hp hy ⊢; exact part_next HF.out hp hy)
          have hx0 : D[0]? = some x := by rw [hD, List.getElem?_drop]; simpa using hxi
          have hDl : L.pending.length - i = D.length := by rw [hD]; simp
          have hpl := HK.out.pl
          have hpos : 0 < D.length := by omega
          have hDs : D.length ≤ 32 := by omega
          have e18 : (L.pending.length : Int) - (D.length : Int) = (i : Int) := by omega
          have hlen : ((D.length : Int) == 0) = false := by rw [beq_eq_false_iff_ne]; omega
          have dn0 : decide ((i : Int) < 0) = false := by simp
          unfold DropQ at hP
          rw [he, hout, ← hD, ← hL'] at hP
          rw [← hL'] at HO HF6 hcf
          have HDD := Lib.hid hD
          have HX0 := Lib.hid hx0
          clear hL' haf he hout hxi hx0 hD
          refine hP.mono ?_
          rintro e w6 ⟨r6, v6, rfl, hr6, hi6, m6, hv6⟩
          have HI6 := Lib.hid hi6
          have M6 := M5.trans m6 (fun x hx => .inr (by have := HI5.out.foot_base x hx; omega))
          have HX6 := Lib.hid (m6.get HX5.out (fun hx => by have := HI5.out.foot_base _ hx; omega))
          have HOB6 := Lib.hid (HOB5.out.mod m6 (book_off HI5.out HOB5.out))
          have HSB6 := Lib.hid (m6.get HSB5.out (fun hx => by have := LT5 _ hx; omega))
          have T6 : w.heap.size + 1 ≤ w6.heap.size := lt_of_block HX6.out
          have U6 : wr.heap.size < w6.heap.size := lt_of_block HSB6.out
          obtain ⟨pr, cr, hrv, hrd, hro, _⟩ := HR5.out.rd
          subst hrv
          obtain ⟨br, or_, hpr, hrg⟩ := hrd.elem Pd.len i x (by have := HX0.out; rw [HDD.out, List.getElem?_drop] at this; simpa using this)
          subst hpr
          have hrr : br ≥ wr.heap.size := (hro _ rfl).1
          have hcr : i < cr := by have := hrd.le; omega
          have hA6 := (hrd.drop Pd.len i (by omega)).mod m6 (fun _ => Off.slp (fun a ha => by cases ha; intro hx; have := LT5 _ hx; simp only at this; omega) _ _ _)
          rw [← HDD.out] at hA6
          have hty := hr6.type
          obtain ⟨pd, cd, hrv6, hrd6, hro6, _⟩ := hr6.rd
          subst hrv6
          obtain ⟨bd, od, hpd, hrgd⟩ := hrd6.elem Pd.len 0 x HX0.out
          subst hpd
          obtain ⟨CD, hCD⟩ := hty bd rfl
          obtain ⟨k0, hk0, hb0, _⟩ := HNX.out bs 0 x HPT.out HX0.out
          obtain ⟨bb, capb, hu6, hrgb, hbB, C, hbC, hC⟩ := ownB_at HOB6.out k0 _ hb0
          subst hu6
          have hbd : bd ≠ bb := ne_of_ty hCD hbC (by decide)
          have hbb : bb < w6.heap.size := lt_of_block hbC
          have c0 := range_cell hrgd 0 _ x.c0
          rw [hxn, Nat.zero_mul, Nat.add_zero] at c0
          have hu6 := (box_st HSB6.out).u
          have HC6 := Lib.hid (fun n => same_quiet (some ⟨bd, od, none⟩) (slp (some ⟨br, or_, none⟩) i cr 90) cd (cr - i) D (w6.drewN n) (hrd6.mod0 ((Mod.refl [] w6).drewN n)) (hA6.mod0 ((Mod.refl [] w6).drewN n)) (by omega))
          have HRD := Lib.hid hrd6
          have HBC := Lib.hid hbC
          clear hrgd hrg hro hro6 hA6 hty hCD hb0 hrgb hC hbC hi6 hP hk5 hi5 hn5 hu5 hc5 ha5 hxn hr6 hrd hrd6 hk0
          obtain ⟨b9, hb9⟩ : ∃ b, b = wr.heap.size := ⟨_, rfl⟩
          rw [← hb9] at HSB6 U6 hu6 LT5 LB5 ⊢
          clear HSB5 S5 hb9
          go_wp2_with fail
          go_quiet ((go_at_call 19; exact Calls.quiet_of (HC6.out _)))
          go_wp2_with fail
          obtain ⟨w8, hw8⟩ : ∃ W, W = w6.drewN nq := ⟨_, rfl⟩
          have hm8 : Mod [] w6 w8 := by rw [hw8]; exact (Mod.refl [] w6).drewN _
          rw [← hw8]
          have HI8 := Lib.hid (HI6.out.mod0 hm8)
          have HX8 := Lib.hid (hm8.get0 HX6.out)
          have HOB8 := Lib.hid (HOB6.out.mod0 hm8)
          have HRD8 := Lib.hid (HRD.out.mod0 hm8)
          have HOFF := Lib.hid (book_off HI8.out HOB8.out)
          have M8 := M6.trans0 hm8
          clear hw8 hm8 c0 hu6 e18 hlen HC6 HI6 HX6 HOB6 HRD M6 M5
          go_loopw [19] (fun iv wq => ∃ (j : Nat) (b2 : List Bk), j ≤ D.length ∧ iv = .int .i64 j ∧ Book.Part b2 L.given (L.pending.take i) (D.drop j) ∧ b2.length = bs.length ∧ OwnB wq (w.heap.size + 1) (.slice (some ⟨bb, 0, none⟩) bs.length capb) b2 ∧ Mod [bb] w8 wq) (fun iv _ => D.length - (intOf iv).toNat)
          case atStart => exact ⟨0, bs, by omega, rfl, HPT.out, rfl, HOB8.out, Mod.refl _ _⟩
          case round =>
            obtain ⟨j, b2, hj, rfl, hpt, hbl2, hob, hm⟩ := hrel
            have HPJ := Lib.hid hpt
            have HOBJ := Lib.hid hob
            have HM := Lib.hid hm
            clear hpt hob hm
            by_cases hjl : j < D.length
            · obtain ⟨y, hy⟩ : ∃ y, D[j]? = some y := ⟨D[j], List.getElem?_eq_getElem hjl⟩
              obtain ⟨kk, hkk, hbk, hpn⟩ := HNX.out b2 j y HPJ.out hy
              obtain ⟨b', o', he', hry⟩ := HRD8.out.elem Pd.len j y hy
              cases he'
              have hry2 := range_mod HM.out hry (by simp; exact hbd)
              have q0 := range_cell hry2 0 _ y.c0
              rw [hkk, Nat.add_zero] at q0
              obtain ⟨bz, cz, he2, hrb2, _, C2, hC2, _⟩ := ownB_at HOBJ.out kk _ hbk
              have hkl : kk < b2.length := (List.getElem?_eq_some_iff.1 hbk).1
              rw [hbl2] at he2 hkl
              cases he2
              have q87 := range_cell hrb2 87 _ (Bk.c87 _)
              have f87 : wr.frozen? ⟨bb, kk * 88 + 87, none⟩ = false := frozen_blk hC2 _
              have HOBN := Lib.hid (ownB_set HOBJ.out kk _ hbk 2)
              have HPN := Lib.hid hpn
              have dn1 : decide ((kk : Int) + 1 < 1) = false := by simp; omega
              have dn3 : decide ((kk : Int) < 0) = false := by simp
              have dn2 : decide ((bs.length : Int) < (kk : Int) + 1) = false := by simp; omega
              clear hry hry2 hrb2 hC2 hbk hpn hkk hy
              go_wp2_with fail
              go_roundw
              case rel => exact ⟨j + 1, b2.set kk ⟨y.commit, y.poster, y.posted, 2⟩, by omega, by go_num, HPN.out, by rw [List.length_set]; exact hbl2, HOBN.out, HM.out.setCell (.inl (by simp)) _⟩
              case measure => simp [intOf]; omega
            · have hdj : decide ((j : Int) < (D.length : Int)) = false := by simp; omega
              have HBK6 := Lib.hid (HEND.out b2 (by have := HPJ.out; rwa [List.drop_eq_nil_of_le (by omega)] at this))
              have hno : ∀ y ∈ [bb], y ∉ foot g v6 := fun y hy hf => HOFF.out y hf (by simp at hy; subst hy; rfl)
              have HIQ := Lib.hid (HI8.out.mod HM.out (fun hx => hno _ hx (mem_foot.2 (.inl rfl))) (fun x hx hv => hno x hx (mem_foot.2 (.inr hv))))
              have HXQ := Lib.hid (HM.out.get HX8.out (by simp; omega))
              have MQ := M8.trans HM.out (fun y hy => .inr (by simp at hy; subst hy; omega))
              clear hno
              obtain ⟨t1, t2, t3⟩ := HL.out wr HXQ.out
              clear t1 t3
              go_wp2_with fail
              refine (shape_any (w.heap.size + 1) g v6 L' z (k + 1 + 1) wr HIQ.out HO.out HF6.out).mono ?_
              rintro e wa ⟨rfl, ma⟩
              have HIA := Lib.hid (HIQ.out.mod0 ma)
              clear t2
              go_wp2_with fail
              refine (confirmed_any (w.heap.size + 1) g v6 L' _ HIA.out).mono ?_
              rintro e wb ⟨rfl, mb⟩
              have hSb := storeNewCm wb L'.confirmed _ HZ25.out
              have mc := (ma.trans0 mb).alloc (.cells L'.confirmed.cells.toArray 25)
              have hqb : (wb.alloc (.cells L'.confirmed.cells.toArray 25)).cell? ⟨wb.heap.size, 0, none⟩ = some (.int .i64 L'.confirmed.count) := (box_cm wb L'.confirmed).1
              have HIC := Lib.hid (HIQ.out.mod0 mc)
              have HXC := Lib.hid (mc.get0 HXQ.out)
              have HOBC := Lib.hid (HOBJ.out.mod0 mc)
              have MC := MQ.trans0 mc
              rw [hcf] at hSb hqb HIC HXC HOBC MC ⊢
              clear ma mb mc HIA
              go_wp2_with fail
              go_roundw
              case rel => exact ⟨k + 1, v6, _, _, L', b2, by omega, rfl, rfl, by rw [hcf], by go_num, HIC.out, HO.out, HF6.out, HBK6.out, by first | omega | (simp; omega), HOBC.out, HXC.out, MC⟩
              case measure => simp [intOf]; omega
        · have hpo : L.afterDrop s.number = L := drop_none he
          have HBK6 := Lib.hid (show Book bs (L.afterDrop s.number) by rw [hpo]; exact HBK.out)
          unfold DropQ at hP
          obtain ⟨er, her⟩ : ∃ er, er = L.dropErr s.number := ⟨_, rfl⟩
          obtain ⟨L', hL'⟩ : ∃ L', L' = L.afterDrop s.number := ⟨_, rfl⟩
          rw [← her] at he hP
          rw [← hL'] at hP HO HF6 hcf HBK6
          have he2 : (er == 0) = false := by simpa using he
          clear her hpo he hL'
          refine hP.mono ?_
          rintro e w6 ⟨r6, v6, rfl, hr6, hi6, m6, _⟩
          have HI6 := Lib.hid hi6
          have M6 := M5.trans m6 (fun x hx => .inr (by have := HI5.out.foot_base x hx; omega))
          have HX6 := Lib.hid (m6.get HX5.out (fun hx => by have := HI5.out.foot_base _ hx; omega))
          have HOB6 := Lib.hid (HOB5.out.mod m6 (book_off HI5.out HOB5.out))
          clear hP hi6 m6 hk5 hi5 hn5 hu5 hc5 ha5 hr6
          obtain ⟨t1, t2, t3⟩ := HL.out w6 HX6.out
          clear t1 t3
          go_wp2_with fail
          refine (shape_any (w.heap.size + 1) g v6 L' z (k + 1 + 1) w6 HI6.out HO.out HF6.out).mono ?_
          rintro e wa ⟨rfl, ma⟩
          have HIA := Lib.hid (HI6.out.mod0 ma)
          clear t2
          go_wp2_with fail
          refine (confirmed_any (w.heap.size + 1) g v6 L' _ HIA.out).mono ?_
          rintro e wb ⟨rfl, mb⟩
          have hSb := storeNewCm wb L'.confirmed _ HZ25.out
          have mc := (ma.trans0 mb).alloc (.cells L'.confirmed.cells.toArray 25)
          have hqb : (wb.alloc (.cells L'.confirmed.cells.toArray 25)).cell? ⟨wb.heap.size, 0, none⟩ = some (.int .i64 L'.confirmed.count) := (box_cm wb L'.confirmed).1
          have HIC := Lib.hid (HI6.out.mod0 mc)
          have HXC := Lib.hid (mc.get0 HX6.out)
          have HOBC := Lib.hid (HOB6.out.mod0 mc)
          have MC := M6.trans0 mc
          rw [hcf] at hSb hqb HIC HXC HOBC MC ⊢
          clear ma mb mc HIA
          go_wp2_with fail
          go_roundw
          case rel => exact ⟨k + 1, v6, _, _, L', bs, by omega, rfl, rfl, by rw [hcf], by go_num, HIC.out, HO.out, HF6.out, HBK6.out, by first | omega | (simp; omega), HOBC.out, HXC.out, MC⟩
          case measure => simp [intOf]; omega
      case inr.inr.inr.inl => as_aux_lemma =>
        go_wp2_with fail
        refine (hold_step (w.heap.size + 1) g v L _ HI5.out (k + 1) (by omega) HK.out s.number s.now).mono ?_
        rintro e w6 ⟨v6, rfl, hi6, m6, _⟩
        obtain ⟨L', hL'⟩ : ∃ L', L' = L.afterHold s.number s.now := ⟨_, rfl⟩
        have hcf : L'.confirmed = L.confirmed := by rw [hL']; exact conf_hold _ _ _
        have HO := Lib.hid (show L'.Ok (k + 1 + 1) by rw [hL']; exact HK.out.hold _ _)
        have HF6 := Lib.hid (show Fine L' z by rw [hL']; exact HF.out.hold HK.out _ _)
        have HBK6 := Lib.hid (show Book bs L' by rw [hL']; exact HBK.out.hold _ _)
        rw [← hL'] at hi6
        have HI6 := Lib.hid hi6
        have M6 := M5.trans m6 (fun x hx => .inr (by have := HI5.out.foot_base x hx; omega))
        have HX6 := Lib.hid (m6.get HX5.out (fun hx => by have := HI5.out.foot_base _ hx; omega))
        have HOB6 := Lib.hid (HOB5.out.mod m6 (book_off HI5.out HOB5.out))
        clear hL' hi6 m6 hk5 hi5 hn5 hu5 hc5 ha5
        obtain ⟨t1, t2, t3⟩ := HL.out w6 HX6.out
        clear t1 t3
        go_wp2_with fail
        refine (shape_any (w.heap.size + 1) g v6 L' z (k + 1 + 1) w6 HI6.out HO.out HF6.out).mono ?_
        rintro e w7 ⟨rfl, m7⟩
        have HI7 := Lib.hid (HI6.out.mod0 m7)
        clear t2
        go_wp2_with fail
        refine (confirmed_any (w.heap.size + 1) g v6 L' _ HI7.out).mono ?_
        rintro e w8 ⟨rfl, m8⟩
        have hS8 := storeNewCm w8 L'.confirmed _ HZ25.out
        have m9 := (m7.trans0 m8).alloc (.cells L'.confirmed.cells.toArray 25)
        have hq8 : (w8.alloc (.cells L'.confirmed.cells.toArray 25)).cell? ⟨w8.heap.size, 0, none⟩ = some (.int .i64 L'.confirmed.count) := (box_cm w8 L'.confirmed).1
        have HI9 := Lib.hid (HI6.out.mod0 m9)
        have HX9 := Lib.hid (m9.get0 HX6.out)
        have HOB9 := Lib.hid (HOB6.out.mod0 m9)
        have M9 := M6.trans0 m9
        rw [hcf] at hS8 hq8 HI9 HX9 HOB9 M9 ⊢
        clear m7 m8 m9 HI7
        go_wp2_with fail
        go_roundw
        case rel => exact ⟨k + 1, v6, _, _, L', bs, by omega, rfl, rfl, by rw [hcf], by go_num, HI9.out, HO.out, HF6.out, HBK6.out, by omega, HOB9.out, HX9.out, M9⟩
        case measure => simp [intOf]; omega
      case inr.inr.inr.inr.inl => as_aux_lemma =>
        go_wp2_with fail
        refine (rel_step (w.heap.size + 1) g v L _ HI5.out (k + 1) (by omega) HK.out s.number).mono ?_
        rintro e w6 ⟨v6, rfl, hi6, m6, _⟩
        obtain ⟨L', hL'⟩ : ∃ L', L' = L.afterRel s.number := ⟨_, rfl⟩
        have hcf : L'.confirmed = L.confirmed := by rw [hL']; exact conf_rel _ _
        have HO := Lib.hid (show L'.Ok (k + 1 + 1) by rw [hL']; exact HK.out.rel _)
        have HF6 := Lib.hid (show Fine L' z by rw [hL']; exact HF.out.rel HK.out _)
        have HBK6 := Lib.hid (show Book bs L' by rw [hL']; exact HBK.out.rel _)
        rw [← hL'] at hi6
        have HI6 := Lib.hid hi6
        have M6 := M5.trans m6 (fun x hx => .inr (by have := HI5.out.foot_base x hx; omega))
        have HX6 := Lib.hid (m6.get HX5.out (fun hx => by have := HI5.out.foot_base _ hx; omega))
        have HOB6 := Lib.hid (HOB5.out.mod m6 (book_off HI5.out HOB5.out))
        clear hL' hi6 m6 hk5 hi5 hn5 hu5 hc5 ha5
        obtain ⟨t1, t2, t3⟩ := HL.out w6 HX6.out
        clear t1 t3
        go_wp2_with fail
        refine (shape_any (w.heap.size + 1) g v6 L' z (k + 1 + 1) w6 HI6.out HO.out HF6.out).mono ?_
        rintro e w7 ⟨rfl, m7⟩
        have HI7 := Lib.hid (HI6.out.mod0 m7)
        clear t2
        go_wp2_with fail
        refine (confirmed_any (w.heap.size + 1) g v6 L' _ HI7.out).mono ?_
        rintro e w8 ⟨rfl, m8⟩
        have hS8 := storeNewCm w8 L'.confirmed _ HZ25.out
        have m9 := (m7.trans0 m8).alloc (.cells L'.confirmed.cells.toArray 25)
        have hq8 : (w8.alloc (.cells L'.confirmed.cells.toArray 25)).cell? ⟨w8.heap.size, 0, none⟩ = some (.int .i64 L'.confirmed.count) := (box_cm w8 L'.confirmed).1
        have HI9 := Lib.hid (HI6.out.mod0 m9)
        have HX9 := Lib.hid (m9.get0 HX6.out)
        have HOB9 := Lib.hid (HOB6.out.mod0 m9)
        have M9 := M6.trans0 m9
        rw [hcf] at hS8 hq8 HI9 HX9 HOB9 M9 ⊢
        clear m7 m8 m9 HI7
        go_wp2_with fail
        go_roundw
        case rel => exact ⟨k + 1, v6, _, _, L', bs, by omega, rfl, rfl, by rw [hcf], by go_num, HI9.out, HO.out, HF6.out, HBK6.out, by omega, HOB9.out, HX9.out, M9⟩
        case measure => simp [intOf]; omega
      case inr.inr.inr.inr.inr => as_aux_lemma =>
        clear hi5 hn5 hu5 hc5 ha5
        obtain ⟨t1, t2, t3⟩ := HL.out w5 HX5.out
        clear t1 t3
        go_wp2_with fail
        refine (shape_any (w.heap.size + 1) g v L z (k + 1) w5 HI5.out HK.out HF.out).mono ?_
        rintro e w7 ⟨rfl, m7⟩
        have HI7 := Lib.hid (HI5.out.mod0 m7)
        clear t2
        go_wp2_with fail
        refine (confirmed_any (w.heap.size + 1) g v L _ HI7.out).mono ?_
        rintro e w8 ⟨rfl, m8⟩
        have hS8 := storeNewCm w8 L.confirmed _ HZ25.out
        have m9 := (m7.trans0 m8).alloc (.cells L.confirmed.cells.toArray 25)
        have hq8 : (w8.alloc (.cells L.confirmed.cells.toArray 25)).cell? ⟨w8.heap.size, 0, none⟩ = some (.int .i64 L.confirmed.count) := (box_cm w8 L.confirmed).1
        have HI9 := Lib.hid (HI5.out.mod0 m9)
        have HX9 := Lib.hid (m9.get0 HX5.out)
        have HOB9 := Lib.hid (HOB5.out.mod0 m9)
        have M9 := M5.trans0 m9
        clear m7 m8 m9 HI7
        go_wp2_with fail
        go_roundw
        case rel => exact ⟨k + 1, v, _, _, L, bs, by omega, rfl, rfl, rfl, by go_num, HI9.out, HK.out.up (Nat.le_succ _), HF.out, HBK.out, by omega, HOB9.out, HX9.out, M9⟩
        case measure => simp [intOf]; omega
    · as_aux_lemma =>
      have hd : decide ((k : Int) < (xs.length : Int)) = false := by simp; omega
      have HM := Lib.hid hm
      clear hm
      go_wp2_with fail
      refine (pending_any (w.heap.size + 1) g v L _ HI.out HK.out.len).mono ?_
      rintro e w5 ⟨r, rfl, hr4, m4⟩
      have HOB5 := Lib.hid (HOB.out.mod0 m4)
      have M5 := HM.out.trans0 m4
      obtain ⟨pb, cb, hub, hrb, _⟩ := HOB5.out.rd
      subst hub
      obtain ⟨pr, cr, hrv, hrr, _⟩ := hr4.rd
      subst hrv
      have HRB := Lib.hid hrb
      have HRR := Lib.hid hrr
      have hbs : bs.length ≤ 1048576 := by omega
      have hpl := HK.out.pl
      clear hrb hrr hr4 m4 HI HX HOB HM
      go_wp2_with fail
      go_loopw [24, 25] (fun nv iv wq => ∃ j : Nat, j ≤ bs.length ∧ nv = .int .i64 (live (bs.take j) : Nat) ∧ iv = .int .i64 j ∧ Mod [] w5 wq) (fun _ iv _ => bs.length - (intOf iv).toNat)
      case atStart => exact ⟨0, by omega, rfl, rfl, Mod.refl _ _⟩
      case round =>
        obtain ⟨j, hj, rfl, rfl, hm⟩ := hrel
        have HM := Lib.hid hm
        clear hm
        by_cases hjl : j < bs.length
        · obtain ⟨y, hy⟩ : ∃ y, bs[j]? = some y := ⟨bs[j], List.getElem?_eq_getElem hjl⟩
          obtain ⟨b1, o1, rfl, hry⟩ := HRB.out.elem Bk.len j y hy
          have q87 := range_cell (range_mod HM.out hry (by simp)) 87 _ y.c87
          have hlt2 := live_take bs j y hy
          have hll := live_le (bs.take j)
          have hlj : (bs.take j).length = j := List.length_take_of_le (by omega)
          rw [hlj] at hll
          obtain ⟨nl, hnl⟩ : ∃ nl, nl = live (bs.take j) := ⟨_, rfl⟩
          rw [← hnl] at hlt2 hll ⊢
          have HLT := Lib.hid hlt2
          clear hry hy hlj hlt2 hnl
          by_cases hg : y.gone = 0
          · have hge : (y.gone == 0) = true := by simpa using hg
            clear hg
            go_wp2_with fail
            go_roundw
            case rel => exact ⟨j + 1, by omega, by rw [HLT.out, hge]; go_num, by go_num, HM.out⟩
            case measure => simp [intOf]; omega
          · have hge : (y.gone == 0) = false := by simpa using hg
            clear hg
            go_wp2_with fail
            go_roundw
            case rel => exact ⟨j + 1, by omega, by rw [HLT.out, hge]; rfl, by go_num, HM.out⟩
            case measure => simp [intOf]; omega
        · have hdj : decide ((j : Int) < (bs.length : Int)) = false := by simp; omega
          have hlv : live (bs.take j) = L.pending.length := by rw [List.take_of_length_le (by omega)]; exact HBK.out.cnt
          rw [hlv]
          obtain ⟨w6, hw6⟩ : ∃ W, W = wr := ⟨_, rfl⟩
          rw [← hw6] at HM ⊢
          clear hw6 hlv
          go_wp2_with fail
          go_loopw [26] (fun iv wq => ∃ j : Nat, j ≤ L.pending.length ∧ iv = .int .i64 j ∧ Mod [] w5 wq) (fun iv _ => L.pending.length - (intOf iv).toNat)
          case atStart => exact ⟨0, by omega, rfl, HM.out⟩
          case round =>
            obtain ⟨i, hi, rfl, hm⟩ := hrel
            have HM2 := Lib.hid hm
            clear hm HM
            by_cases hil : i < L.pending.length
            · obtain ⟨y, hy⟩ : ∃ y, L.pending[i]? = some y := ⟨L.pending[i], List.getElem?_eq_getElem hil⟩
              obtain ⟨kk, hkk, hbk⟩ := HBK.out.at_ y (List.mem_of_getElem? hy)
              have hkl : kk < bs.length := (List.getElem?_eq_some_iff.1 hbk).1
              obtain ⟨b2, o2, rfl, hry⟩ := HRR.out.elem Pd.len i y hy
              obtain ⟨b1, o1, rfl, hrb⟩ := HRB.out.elem Bk.len kk _ hbk
              have hry2 := range_mod HM2.out hry (by simp)
              have hrb2 := range_mod HM2.out hrb (by simp)
              have q0 := range_cell hry2 0 _ y.c0
              rw [hkk, Nat.add_zero] at q0
              have q87 := range_cell hrb2 87 _ (Bk.c87 _)
              have l1 := fun n => loadCm (pd_commit (range_mod ((Mod.refl [] wr).drewN n) hry2 (by simp)))
              have l2 := fun n => loadCm (bk_commit (range_mod ((Mod.refl [] wr).drewN n) hrb2 (by simp)))
              have e2 := fun w => neqCm w y.commit
              have g2 := guardCm
              have dn1 : decide ((kk : Int) + 1 < 1) = false := by simp; omega
              have dn3 : decide ((kk : Int) < 0) = false := by simp
              have dn2 : decide ((bs.length : Int) < (kk : Int) + 1) = false := by simp; omega
              clear hry hrb hry2 hrb2 hbk hkk hy
              go_wp2_with fail
              go_quiet (fail)
              go_wp2_with fail
              go_roundw
              case rel => exact ⟨i + 1, by omega, by go_num, HM2.out.drewN _⟩
              case measure => simp [intOf]; omega
            · have hdi : decide ((i : Int) < (L.pending.length : Int)) = false := by simp; omega
              go_wp2_with fail
              go_ret
              exact ⟨by simp, M5.trans0 HM2.out⟩
end Go.Proofs.Ytmjdfglidfdkaaa
