/- The links: Next of inbox, Text and Next of its reference. Conditions: the three tables lie in their variables. -/
import Derived.Test.YtmdgefiojapogaaDoorInBytesM
import Derived.Test.YtmdgefiojapogaaDoorRfTreeIM
namespace Go.Proofs.YtmdgefiojapogaaDoor
open Go.RowKit
attribute [local go_sem high] one8 st8 cm8 b_and8 b_and8r b_and8l b_or8 b_or8r b_or8l b_xor8 b_xor8r b_xor8l b_andNot8 b_andNot8r b_andNot8l b_add8 b_add8r b_add8l b_sub8 b_sub8r b_sub8l b_mul8 b_mul8r b_mul8l b_eql8 b_eql8r b_eql8l b_neq8 b_neq8r b_neq8l b_lss8 b_lss8r b_lss8l b_leq8 b_leq8r b_leq8l b_gtr8 b_gtr8r b_gtr8l b_geq8 b_geq8r b_geq8l b_quo8r b_rem8r b_shl8r b_shr8r b_shl8l b_shr8l u_xor8 g_eql8 g_neq8 g_eql8' g_neq8' one32 st32 cm32 b_and32 b_and32r b_and32l b_or32 b_or32r b_or32l b_xor32 b_xor32r b_xor32l b_andNot32 b_andNot32r b_andNot32l b_add32 b_add32r b_add32l b_sub32 b_sub32r b_sub32l b_mul32 b_mul32r b_mul32l b_eql32 b_eql32r b_eql32l b_neq32 b_neq32r b_neq32l b_lss32 b_lss32r b_lss32l b_leq32 b_leq32r b_leq32l b_gtr32 b_gtr32r b_gtr32l b_geq32 b_geq32r b_geq32l b_quo32r b_rem32r b_shl32r b_shr32r b_shl32l b_shr32l u_xor32 g_eql32 g_neq32 g_eql32' g_neq32' one64 st64 cm64 b_and64 b_and64r b_and64l b_or64 b_or64r b_or64l b_xor64 b_xor64r b_xor64l b_andNot64 b_andNot64r b_andNot64l b_add64 b_add64r b_add64l b_sub64 b_sub64r b_sub64l b_mul64 b_mul64r b_mul64l b_eql64 b_eql64r b_eql64l b_neq64 b_neq64r b_neq64l b_lss64 b_lss64r b_lss64l b_leq64 b_leq64r b_leq64l b_gtr64 b_gtr64r b_gtr64l b_geq64 b_geq64r b_geq64l b_quo64r b_rem64r b_shl64r b_shr64r b_shl64l b_shr64l u_xor64 g_eql64 g_neq64 g_eql64' g_neq64' c_u8_u8 c_u8_u32 c_u8_u64 c_i_u8 c_u32_u8 c_u32_u32 c_u32_u64 c_i_u32 c_u64_u8 c_u64_u32 c_u64_u64 c_i_u64 c_u8_i c_u32_i
attribute [local go_sem ↓] ce8 ce32 ce64
/-- 'hf' is the digest; the table of the steps lies in its variable. -/
structure Hs (hf : Bs → Bs) (w : World) : Prop where
  t : Tab w
  eq : ∀ d, hf d = fin d 0 0
namespace Hs
variable {hf : Bs → Bs} {a w : World}
theorem len (h : Hs hf w) (d : Bs) : (hf d).length = 32 := by rw [h.eq]; exact fin_length _ _ _
theorem mod0 (h : Hs hf a) (m : Mod [] a w) : Hs hf w := ⟨Tab.mod m h.t (by simp), h.eq⟩
theorem parts (h : Hs hf w) (q : Option Addr) (c n : Nat) (xs : List SlR) (hn : n = xs.length) (hr : Rd SlR.v w q c xs) (hx : ∀ x ∈ xs, Rd V8 w x.p x.cap x.d) (hl : xs.length ≤ 4294967296) (ht : total xs ≤ 70368744177664) :
    Calls Tryd.prog 36 #[.slice q n c] w fun e w' => e = .returned (dv (hf (joined xs))) ∧ Mod [] w w' := by
  subst hn
  rw [h.eq]
  exact parts_any q c xs w hr hx h.t h.t.lt (by omega) (by omega)
end Hs
/-- The reference's two tables lie in their variables. -/
structure Rf (w : World) : Prop where
  tr : TabR w
  tb : TabB w
theorem Rf.mod0 {a w : World} (h : Rf a) (m : Mod [] a w) : Rf w := ⟨TabR.mod m h.tr (by simp), TabB.mod m h.tb (by simp)⟩
theorem rsum {hf : Bs → Bs} {w : World} (h : Hs hf w) (r : Rf w) (q : Option Addr) (c n : Nat) (d : Bs) (hn : n = d.length) (hr : Rd V8 w q c d) (ht : d.length ≤ 70368744177664) :
    Calls Tryd.prog 37 #[.slice q n c] w fun e w' => e = .returned (dv (hf d)) ∧ Mod [] w w' := by
  subst hn
  rw [h.eq]
  exact ref_sum q c d w hr ht r.tr r.tb
/-- The temporary list of lists that a call hands over. -/
theorem rd_sl {w : World} {b c : Nat} {xs : List SlR} {t : TypeId} {fr : Nat × Nat} (h : w.heap[b]? = some (.cells (xs.map SlR.v).toArray t fr)) (hc : xs.length ≤ c) : Rd SlR.v w (some ⟨b, 0, none⟩) c xs :=
  Rd.of_blk h (fun j v hv => by simpa using hv) hc
theorem buildZDg (parts : Array (Nat × Value)) : Instr.build 24 parts = BuildZ 24 parts := rfl
attribute [local go_sem ↓] sliced_slp loadO26 storeO26 loadOEn storeOEn buildZDg
/-- The link behind an entry. -/
def nextH (hf : Bs → Bs) (link : Bs) (x : En) : Bs := if x.fine then hf (link ++ x.bytes) else zeros 32
def nextE (x : En) : Int := if x.fine then 0 else 150
theorem builtDg : Tryd.prog.built 24 [] = some (((zeros 32).map V8).toArray) := by kernel_rfl
set_option maxRecDepth 100000 in
theorem next_no {hf : Bs → Bs} (link : Bs) (x : En) (w : World) (hl : x.Ln) (hc : x.fine = false) :
    Calls Tryd.prog 14 #[dv link, .agg x.cells.toArray] w fun e w' => e = .returned (.tuple #[dv (nextH hf link x), .int .i64 (nextE x)]) ∧ Mod [] w w' := by
  unfold dv
  have hL : ∀ (A Z : Obj), (LoadO 35 (.pointer (some ⟨w.heap.size + 1, 0, none⟩))).run Tryd.prog (((w.alloc A).alloc (.cells x.cells.toArray 35)).alloc Z) = .ok (.agg x.cells.toArray) (((w.alloc A).alloc (.cells x.cells.toArray 35)).alloc Z) := fun A Z =>
    (enBox hl (hp_old (hp_new (w.alloc A) (.cells x.cells.toArray 35) (w.heap.size + 1) (by simp)))).ln
  have HEB := Lib.hid (fun (V : World) => ebytes_no x V hl hc)
  have hck : x.chk = 63 := by unfold En.chk; rw [hc]; rfl
  have HC := Lib.hid hck
  have HNX := Lib.hid (show nextH hf link x = zeros 32 ∧ nextE x = 150 by unfold nextH nextE; rw [hc]; exact ⟨rfl, rfl⟩)
  obtain ⟨cs, hcs⟩ : ∃ cs, cs = x.cells.toArray := ⟨_, rfl⟩
  obtain ⟨ls, hls⟩ : ∃ ls, ls = (link.map V8).toArray := ⟨_, rfl⟩
  have bz : ∀ w, (BuildZ 24 #[]).run Tryd.prog w = .ok (.agg ((zeros 32).map V8).toArray) w := fun w => run_buildZ w 24 #[] _ builtDg
  obtain ⟨Z, hZ⟩ : ∃ Z : Array Value, Z = ((zeros 32).map V8).toArray := ⟨_, rfl⟩
  rw [← hZ] at bz
  rw [← hcs] at hL HEB ⊢
  rw [← hls]
  have HZ := Lib.hid hZ
  clear hcs hls hl hc hck hZ
  go_enter Tryd.func14, Tryd.ntmps14
  go_wp2_with fail
  refine (HEB.out _).mono ?_
  rintro e w1 ⟨v, rfl, hv, m1⟩
  rw [HC.out, if_neg (by decide)] at hv
  rw [HC.out]
  subst hv
  have HRES := Lib.hid (m1.get0 (hp_new ((w.alloc (.cells ls 24)).alloc (.cells cs 35)) _ (w.heap.size + 1 + 1) (by simp)))
  have HM := Lib.hid (((((Mod.refl [] w).alloc _).alloc _).alloc _).trans0 m1)
  have hS := storeDv (zeros 32) (zeros_length 32) HRES.out rfl
  unfold dv at hS
  rw [← HZ.out] at hS
  clear m1 hL
  go_wp2_with fail
  have hR := hp_setRow (cs := Z) HRES.out
  rw [HZ.out] at hR ⊢
  exact bodyPost_ret (results_dv2 rfl _ _ _ _ (zeros_length 32) _ rfl hR) rfl ⟨by rw [HNX.out.1, HNX.out.2]; rfl, HM.out.setRow (.inr (by omega)) _⟩
set_option maxRecDepth 100000 in
theorem next_yes {hf : Bs → Bs} (link : Bs) (hk : link.length = 32) (x : En) (w : World) (hl : x.Ln) (hr : Rd V8 w x.body.p x.body.cap x.body.d) (hc : x.fine = true) (H : Hs hf w) (hkd : x.kind = 1 ∨ x.kind = 2) :
    Calls Tryd.prog 14 #[dv link, .agg x.cells.toArray] w fun e w' => e = .returned (.tuple #[dv (nextH hf link x), .int .i64 (nextE x)]) ∧ Mod [] w w' := by
  have HL32 := Lib.hid (H.len (link ++ x.bytes))
  unfold dv
  have hL : ∀ (A Z : Obj), (LoadO 35 (.pointer (some ⟨w.heap.size + 1, 0, none⟩))).run Tryd.prog (((w.alloc A).alloc (.cells x.cells.toArray 35)).alloc Z) = .ok (.agg x.cells.toArray) (((w.alloc A).alloc (.cells x.cells.toArray 35)).alloc Z) := fun A Z =>
    (enBox hl (hp_old (hp_new (w.alloc A) (.cells x.cells.toArray 35) (w.heap.size + 1) (by simp)))).ln
  have HEB := Lib.hid (fun (V : World) (m : Mod [] w V) => show Calls Tryd.prog 35 #[.agg x.cells.toArray] V (BytesE x V) from by
    rcases hkd with h | h
    · exact ebytes_dep x V hl (hr.mod0 m) hc h
    · exact ebytes_call x V hl (hr.mod0 m) hc h)
  have hck : x.chk = 0 := by unfold En.chk; rw [hc]; rfl
  have HC := Lib.hid hck
  have HH := Lib.hid H
  have HK := Lib.hid hk
  have HBL := Lib.hid (bytes_len hl hc)
  have HNX := Lib.hid (show nextH hf link x = hf (link ++ x.bytes) ∧ nextE x = 0 by unfold nextH nextE; rw [hc]; exact ⟨rfl, rfl⟩)
  obtain ⟨cs, hcs⟩ : ∃ cs, cs = x.cells.toArray := ⟨_, rfl⟩
  obtain ⟨ls, hls⟩ : ∃ ls, ls = (link.map V8).toArray := ⟨_, rfl⟩
  rw [← hcs] at hL HEB ⊢
  rw [← hls]
  have HLS := Lib.hid hls
  clear hcs hls hl hc hck hr H hk hkd
  go_enter Tryd.func14, Tryd.ntmps14
  go_wp2_with fail
  refine (HEB.out _ ((((Mod.refl [] w).alloc _).alloc _).alloc _)).mono ?_
  rintro e w1 ⟨v, rfl, hv, m1⟩
  rw [HC.out, if_pos rfl] at hv
  rw [HC.out]
  obtain ⟨q, c, rfl, hrd, _⟩ := hv.rd
  have HRES := Lib.hid (m1.get0 (hp_new ((w.alloc (.cells ls 24)).alloc (.cells cs 35)) _ (w.heap.size + 1 + 1) (by simp)))
  have HLK := Lib.hid (m1.get0 (hp_old (hp_old (hp_new w (.cells ls 24) _ rfl))))
  have HM := Lib.hid (((((Mod.refl [] w).alloc _).alloc _).alloc _).trans0 m1)
  have HRD := Lib.hid hrd
  obtain ⟨n, hn⟩ : ∃ n, n = x.bytes.length := ⟨_, rfl⟩
  rw [← hn]
  have HN := Lib.hid hn
  clear m1 hL hv hrd hn
  go_wp2_with fail
  have hb := hp_new w1 (.cells #[.slice (some ⟨w.heap.size, 0, none⟩) 32 32, .slice q n c] 27) _ rfl
  have mA := (Mod.refl [] w1).alloc (.cells #[.slice (some ⟨w.heap.size, 0, none⟩) 32 32, .slice q n c] 27)
  have hj : joined [⟨some ⟨w.heap.size, 0, none⟩, 32, link⟩, ⟨q, c, x.bytes⟩] = link ++ x.bytes := by simp [joined]
  have hp := Hs.parts ((HH.out.mod0 HM.out).mod0 mA) (some ⟨w1.heap.size, 0, none⟩) 2 2 [⟨some ⟨w.heap.size, 0, none⟩, 32, link⟩, ⟨q, c, x.bytes⟩] rfl (rd_sl (t := 27) (fr := (0, 0)) (hb.trans (by simp [SlR.v, HK.out, HN.out])) (by simp)) (by
    intro y hy
    simp only [List.mem_cons, List.not_mem_nil, or_false] at hy
    rcases hy with rfl | rfl
    · exact rd_whole (x := link) (by rw [← HLS.out]; exact mA.get0 HLK.out) (by rw [HK.out]; exact Nat.le_refl _)
    · exact HRD.out.mod0 mA) (by simp) (by have := HBL.out; have := HK.out; simp [total]; omega)
  rw [hj] at hp
  refine hp.mono ?_
  rintro e w2 ⟨rfl, m2⟩
  have HRES2 := Lib.hid (m2.get0 (mA.get0 HRES.out))
  have HM2 := Lib.hid (HM.out.trans0 (mA.trans0 m2))
  have hS := storeDv (hf (link ++ x.bytes)) HL32.out HRES2.out rfl
  clear hb mA hj hp m2
  go_wp2_with fail
  exact bodyPost_ret (results_dv2 rfl _ _ _ _ HL32.out _ rfl (hp_setRow HRES2.out)) rfl ⟨by rw [HNX.out.1, HNX.out.2]; rfl, HM2.out.setRow (.inr (by omega)) _⟩
theorem fine_kind {x : En} (h : x.fine = true) : x.kind = 1 ∨ x.kind = 2 := by
  unfold En.fine at h
  by_cases h1 : x.kind = 1
  · exact .inl h1
  · by_cases h2 : x.kind = 2
    · exact .inr h2
    · rw [if_neg h1, if_neg h2] at h; cases h
theorem next_any {hf : Bs → Bs} (link : Bs) (hk : link.length = 32) (x : En) (w : World) (hl : x.Ln) (hr : Rd V8 w x.body.p x.body.cap x.body.d) (H : Hs hf w) :
    Calls Tryd.prog 14 #[dv link, .agg x.cells.toArray] w fun e w' => e = .returned (.tuple #[dv (nextH hf link x), .int .i64 (nextE x)]) ∧ Mod [] w w' := by
  cases hc : x.fine
  · exact next_no link x w hl hc
  · exact next_yes link hk x w hl hr hc H (fine_kind hc)
theorem own_blk {w : World} {B g : Nat} {l : Bs} (hg : w.heap[g]? = some (.cells (l.map V8).toArray 5 (0, 0))) (hB : B ≤ g) (hl : l.length ≤ maxLen) : Own w B (.slice (some ⟨g, 0, none⟩) l.length l.length) l := by
  refine ⟨by simp, .inr ⟨g, l.length, (l.map V8).toArray, rfl, hB, hg, ?_, ?_, ?_, ?_⟩⟩
  · simp
  · exact hl
  · simp
  · simp only [Nat.mul_one]
    rw [List.take_of_length_le (by simp)]
/-- Bytes of the call's own are handed back. -/
def BytesPost (d : Bs) (w : World) (e : Ending) (w' : World) : Prop := ∃ v, e = .returned v ∧ Own w' w.heap.size v d ∧ Mod [] w w'
theorem rebytes_yes (x : En) (w : World) (hl : x.Ln) (hr : Rd V8 w x.body.p x.body.cap x.body.d) (hc : x.fine = true) : Calls Tryd.prog 63 #[.agg x.cells.toArray] w (BytesE x w) := by
  rcases fine_kind hc with h | h
  · exact rebytes_dep x w hl hr hc h
  · exact rebytes_call x w hl hr hc h
set_option maxRecDepth 100000 in
theorem text_any (link : Bs) (hk : link.length = 32) (x : En) (w : World) (hl : x.Ln) (hr : Rd V8 w x.body.p x.body.cap x.body.d) (hc : x.fine = true) :
    Calls Tryd.prog 38 #[dv link, .agg x.cells.toArray] w (BytesPost (link ++ x.bytes) w) := by
  unfold dv
  have hL : ∀ (A : Obj), (LoadO 35 (.pointer (some ⟨w.heap.size + 1, 0, none⟩))).run Tryd.prog ((w.alloc A).alloc (.cells x.cells.toArray 35)) = .ok (.agg x.cells.toArray) ((w.alloc A).alloc (.cells x.cells.toArray 35)) := fun A =>
    (enBox hl (hp_new (w.alloc A) (.cells x.cells.toArray 35) (w.heap.size + 1) (by simp))).ln
  have HEB := Lib.hid (fun (V : World) (m : Mod [] w V) => rebytes_yes x V hl (hr.mod0 m) hc)
  have hck : x.chk = 0 := by unfold En.chk; rw [hc]; rfl
  have HC := Lib.hid hck
  have HK := Lib.hid hk
  have HBL := Lib.hid (bytes_len hl hc)
  obtain ⟨cs, hcs⟩ : ∃ cs, cs = x.cells.toArray := ⟨_, rfl⟩
  obtain ⟨ls, hls⟩ : ∃ ls, ls = (link.map V8).toArray := ⟨_, rfl⟩
  rw [← hcs] at hL HEB ⊢
  rw [← hls]
  have HLS := Lib.hid hls
  clear hcs hls hl hc hck hr hk
  go_enter Tryd.func38, Tryd.ntmps38
  go_wp2_with fail
  refine (HEB.out _ (((Mod.refl [] w).alloc _).alloc _)).mono ?_
  rintro e w1 ⟨v, rfl, hv, m1⟩
  rw [HC.out, if_pos rfl] at hv
  rw [HC.out]
  obtain ⟨q, c, rfl, hrd, _⟩ := hv.rd
  have HLK := Lib.hid (m1.get0 (hp_old (hp_new w (.cells ls 24) _ rfl)))
  have HM := Lib.hid ((((Mod.refl [] w).alloc _).alloc _).trans0 m1)
  have HRD := Lib.hid hrd
  obtain ⟨n, hn⟩ : ∃ n, n = x.bytes.length := ⟨_, rfl⟩
  rw [← hn]
  have HN := Lib.hid hn
  clear m1 hL hv hrd hn
  go_wp2_with (first
    | (at_make; with_reducible refine wpList_make8 rfl _ _ rfl 32 _ rfl rfl rfl (by omega) ?_)
    | (with_reducible refine froz_copy _ _ rfl ?_))
  unfold Froz
  have mA := (Mod.refl [] w1).alloc (.cells ((zeros 32).map V8).toArray 5)
  refine wpList_copy8 rfl _ _ rfl w1.heap.size 0 32 32 (some ⟨w.heap.size, 0, none⟩) 32 32 link (zeros 32) rfl rfl (hp_new _ _ _ rfl) (rd_whole (x := link) (by rw [← HLS.out]; exact mA.get0 HLK.out) (by rw [HK.out]; exact Nat.le_refl _)) HK.out.symm (by simp [zeros_length]) ?_
  have e : (zeros 32).take 0 ++ (link.take 32 ++ (zeros 32).drop (0 + min link.length 32)) = link := by
    rw [HK.out, List.take_zero, List.nil_append, List.take_of_length_le (by rw [HK.out]; omega), List.drop_of_length_le (by rw [zeros_length]; omega), List.append_nil]
  rw [e]
  refine abs_w (C := fun W => wpList _ _ _ _ _ W) (fun W => W.heap[w1.heap.size]? = some (.cells (link.map V8).toArray 5) ∧ Mod [] w1 W ∧ w1.heap.size < W.heap.size) ⟨hp_setRow (hp_new _ _ _ rfl), mA.setRow (.inr (Nat.le_refl _)) _, lt_of_block (hp_setRow (hp_new _ _ _ rfl))⟩ ?_
  rintro W ⟨hb, hmW, hsz⟩
  have how := own_blk (B := w1.heap.size) hb (Nat.le_refl _) (by rw [HK.out]; unfold maxLen; omega)
  rw [HK.out] at how
  have HOW := Lib.hid how
  have HMW := Lib.hid hmW
  have HSZ := Lib.hid hsz
  clear mA e hb hmW hsz how
  go_wp2_with (at_builtin; with_reducible refine froz_app _ _ rfl ?_)
  unfold Froz
  refine wpList_pushAll rfl _ _ rfl w1.heap.size _ link HOW.out rfl q n c x.bytes rfl HN.out (HRD.out.mod0 HMW.out) (by have := HBL.out; have := HK.out; omega) (Nat.le_of_lt HSZ.out) ?_
  intro v' w' ho hg
  have HO := Lib.hid (ho.mono (B' := w.heap.size) HM.out.size)
  have HG := Lib.hid ((HM.out.trans0 HMW.out).of_grown hg (fun y hy => .inr (by injection hy with hy; simp only at hy; have := HM.out.size; omega)))
  clear ho hg
  go_wp2_with fail
  go_ret
  exact ⟨v', rfl, HO.out, HG.out⟩
set_option maxRecDepth 100000 in
theorem rnext_no {hf : Bs → Bs} (link : Bs) (x : En) (w : World) (hl : x.Ln) (hc : x.fine = false) :
    Calls Tryd.prog 15 #[dv link, .agg x.cells.toArray] w fun e w' => e = .returned (.tuple #[dv (nextH hf link x), .int .i64 (nextE x)]) ∧ Mod [] w w' := by
  unfold dv
  have hL : ∀ (A Z : Obj), (LoadO 35 (.pointer (some ⟨w.heap.size + 1, 0, none⟩))).run Tryd.prog (((w.alloc A).alloc (.cells x.cells.toArray 35)).alloc Z) = .ok (.agg x.cells.toArray) (((w.alloc A).alloc (.cells x.cells.toArray 35)).alloc Z) := fun A Z =>
    (enBox hl (hp_old (hp_new (w.alloc A) (.cells x.cells.toArray 35) (w.heap.size + 1) (by simp)))).ln
  have hck : x.chk = 63 := by unfold En.chk; rw [hc]; rfl
  have HCK := Lib.hid (fun (V : World) => rcheck_any x V hl)
  rw [hck] at HCK
  have HNX := Lib.hid (show nextH hf link x = zeros 32 ∧ nextE x = 150 by unfold nextH nextE; rw [hc]; exact ⟨rfl, rfl⟩)
  obtain ⟨cs, hcs⟩ : ∃ cs, cs = x.cells.toArray := ⟨_, rfl⟩
  obtain ⟨ls, hls⟩ : ∃ ls, ls = (link.map V8).toArray := ⟨_, rfl⟩
  have bz : ∀ w, (BuildZ 24 #[]).run Tryd.prog w = .ok (.agg ((zeros 32).map V8).toArray) w := fun w => run_buildZ w 24 #[] _ builtDg
  obtain ⟨Z, hZ⟩ : ∃ Z : Array Value, Z = ((zeros 32).map V8).toArray := ⟨_, rfl⟩
  rw [← hZ] at bz
  rw [← hcs] at hL HCK ⊢
  rw [← hls]
  have HZ := Lib.hid hZ
  clear hcs hls hl hc hck hZ
  go_enter Tryd.func15, Tryd.ntmps15
  go_wp2_with fail
  refine (HCK.out _).mono ?_
  rintro e w1 ⟨rfl, m1⟩
  have HRES := Lib.hid (m1.get0 (hp_new ((w.alloc (.cells ls 24)).alloc (.cells cs 35)) _ (w.heap.size + 1 + 1) (by simp)))
  have HM := Lib.hid (((((Mod.refl [] w).alloc _).alloc _).alloc _).trans0 m1)
  have hS := storeDv (zeros 32) (zeros_length 32) HRES.out rfl
  unfold dv at hS
  rw [← HZ.out] at hS
  clear m1 hL
  go_wp2_with fail
  have hR := hp_setRow (cs := Z) HRES.out
  rw [HZ.out] at hR ⊢
  exact bodyPost_ret (results_dv2 rfl _ _ _ _ (zeros_length 32) _ rfl hR) rfl ⟨by rw [HNX.out.1, HNX.out.2]; rfl, HM.out.setRow (.inr (by omega)) _⟩
set_option maxRecDepth 100000 in
theorem rnext_yes {hf : Bs → Bs} (link : Bs) (hk : link.length = 32) (x : En) (w : World) (hl : x.Ln) (hr : Rd V8 w x.body.p x.body.cap x.body.d) (hc : x.fine = true) (H : Hs hf w) (R : Rf w) :
    Calls Tryd.prog 15 #[dv link, .agg x.cells.toArray] w fun e w' => e = .returned (.tuple #[dv (nextH hf link x), .int .i64 (nextE x)]) ∧ Mod [] w w' := by
  have HL32 := Lib.hid (H.len (link ++ x.bytes))
  have hL : ∀ (A Z : Obj), (LoadO 35 (.pointer (some ⟨w.heap.size + 1, 0, none⟩))).run Tryd.prog (((w.alloc A).alloc (.cells x.cells.toArray 35)).alloc Z) = .ok (.agg x.cells.toArray) (((w.alloc A).alloc (.cells x.cells.toArray 35)).alloc Z) := fun A Z =>
    (enBox hl (hp_old (hp_new (w.alloc A) (.cells x.cells.toArray 35) (w.heap.size + 1) (by simp)))).ln
  have HTX := Lib.hid (fun (V : World) (m : Mod [] w V) => text_any link hk x V hl (hr.mod0 m) hc)
  have hck : x.chk = 0 := by unfold En.chk; rw [hc]; rfl
  have HCK := Lib.hid (fun (V : World) => rcheck_any x V hl)
  rw [hck] at HCK
  have HH := Lib.hid H
  have HRF := Lib.hid R
  have HK := Lib.hid hk
  have HBL := Lib.hid (bytes_len hl hc)
  have HNX := Lib.hid (show nextH hf link x = hf (link ++ x.bytes) ∧ nextE x = 0 by unfold nextH nextE; rw [hc]; exact ⟨rfl, rfl⟩)
  have HEN := Lib.hid hl
  obtain ⟨cs, hcs⟩ : ∃ cs, cs = x.cells.toArray := ⟨_, rfl⟩
  rw [← hcs] at hL HTX HCK ⊢
  have HCS := Lib.hid hcs
  clear hcs hl hc hck hr H R hk
  have hbx : dv link = .agg (link.map V8).toArray := rfl
  rw [hbx]
  obtain ⟨ls, hls⟩ : ∃ ls, ls = (link.map V8).toArray := ⟨_, rfl⟩
  rw [← hls]
  have HLS := Lib.hid hls
  clear hls hbx
  unfold dv at HTX
  rw [← HLS.out] at HTX
  go_enter Tryd.func15, Tryd.ntmps15
  go_wp2_with fail
  refine (HCK.out _).mono ?_
  rintro e w1 ⟨rfl, m1⟩
  have HRES := Lib.hid (m1.get0 (hp_new ((w.alloc (.cells ls 24)).alloc (.cells cs 35)) _ (w.heap.size + 1 + 1) (by simp)))
  have hlk := m1.get0 (hp_old (hp_old (hp_new w (.cells ls 24) _ rfl)))
  have hen := m1.get0 (hp_old (hp_new (w.alloc (.cells ls 24)) (.cells cs 35) (w.heap.size + 1) (by simp)))
  have HM := Lib.hid (((((Mod.refl [] w).alloc _).alloc _).alloc _).trans0 m1)
  rw [HLS.out] at hlk
  have hL1 := loadDv link HK.out hlk
  unfold dv at hL1
  rw [← HLS.out] at hL1
  rw [HCS.out] at hen
  have hL2 := (enBox HEN.out hen).ln
  rw [← HCS.out] at hL2
  have HTT := Lib.hid (HTX.out w1 HM.out)
  clear m1 hL hlk hen
  go_wp2_with fail
  refine HTT.out.mono ?_
  rintro e w2 ⟨v, rfl, ho, m2⟩
  obtain ⟨q, c, rfl, hrd, _⟩ := ho.rd
  obtain ⟨u, hu⟩ : ∃ u, u = (link ++ x.bytes).length := ⟨_, rfl⟩
  rw [← hu]
  have HSUM := Lib.hid (rsum (HH.out.mod0 (HM.out.trans0 m2)) (HRF.out.mod0 (HM.out.trans0 m2)) q c u (link ++ x.bytes) hu hrd (by have := HBL.out; have := HK.out; simp; omega))
  have HRES2 := Lib.hid (m2.get0 HRES.out)
  have HM2 := Lib.hid (HM.out.trans0 m2)
  clear ho m2 hrd hu
  go_wp2_with fail
  refine HSUM.out.mono ?_
  rintro e w3 ⟨rfl, m3⟩
  have HRES3 := Lib.hid (m3.get0 HRES2.out)
  have HM3 := Lib.hid (HM2.out.trans0 m3)
  have hS := storeDv (hf (link ++ x.bytes)) HL32.out HRES3.out rfl
  clear m3
  go_wp2_with fail
  exact bodyPost_ret (results_dv2 rfl _ _ _ _ HL32.out _ rfl (hp_setRow HRES3.out)) rfl ⟨by rw [HNX.out.1, HNX.out.2]; rfl, HM3.out.setRow (.inr (by omega)) _⟩
theorem rnext_any {hf : Bs → Bs} (link : Bs) (hk : link.length = 32) (x : En) (w : World) (hl : x.Ln) (hr : Rd V8 w x.body.p x.body.cap x.body.d) (H : Hs hf w) (R : Rf w) :
    Calls Tryd.prog 15 #[dv link, .agg x.cells.toArray] w fun e w' => e = .returned (.tuple #[dv (nextH hf link x), .int .i64 (nextE x)]) ∧ Mod [] w w' := by
  cases hc : x.fine
  · exact rnext_no link x w hl hc
  · exact rnext_yes link hk x w hl hr hc H R
end Go.Proofs.YtmdgefiojapogaaDoor
