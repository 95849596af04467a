/- Digest, Address of a reader, whatever it answers. Condition: at most 2^22 bytes. -/
import Derived.Test.YtnmcbdppbpfegaaRtOne
import Derived.Deep.RegionLaw
namespace Go.Proofs.Ytnmcbdppbpfegaa
open Go.RowKit
attribute [local go_sem high] one8 st8 cm8 b_and8 b_and8r b_and8l b_or8 b_or8r b_or8l b_xor8 b_xor8r b_xor8l b_andNot8 b_andNot8r b_andNot8l b_add8 b_add8r b_add8l b_sub8 b_sub8r b_sub8l b_mul8 b_mul8r b_mul8l b_eql8 b_eql8r b_eql8l b_neq8 b_neq8r b_neq8l b_lss8 b_lss8r b_lss8l b_leq8 b_leq8r b_leq8l b_gtr8 b_gtr8r b_gtr8l b_geq8 b_geq8r b_geq8l b_quo8r b_rem8r b_shl8r b_shr8r b_shl8l b_shr8l u_xor8 g_eql8 g_neq8 g_eql8' g_neq8' one32 st32 cm32 b_and32 b_and32r b_and32l b_or32 b_or32r b_or32l b_xor32 b_xor32r b_xor32l b_andNot32 b_andNot32r b_andNot32l b_add32 b_add32r b_add32l b_sub32 b_sub32r b_sub32l b_mul32 b_mul32r b_mul32l b_eql32 b_eql32r b_eql32l b_neq32 b_neq32r b_neq32l b_lss32 b_lss32r b_lss32l b_leq32 b_leq32r b_leq32l b_gtr32 b_gtr32r b_gtr32l b_geq32 b_geq32r b_geq32l b_quo32r b_rem32r b_shl32r b_shr32r b_shl32l b_shr32l u_xor32 g_eql32 g_neq32 g_eql32' g_neq32' one64 st64 cm64 b_and64 b_and64r b_and64l b_or64 b_or64r b_or64l b_xor64 b_xor64r b_xor64l b_andNot64 b_andNot64r b_andNot64l b_add64 b_add64r b_add64l b_sub64 b_sub64r b_sub64l b_mul64 b_mul64r b_mul64l b_eql64 b_eql64r b_eql64l b_neq64 b_neq64r b_neq64l b_lss64 b_lss64r b_lss64l b_leq64 b_leq64r b_leq64l b_gtr64 b_gtr64r b_gtr64l b_geq64 b_geq64r b_geq64l b_quo64r b_rem64r b_shl64r b_shr64r b_shl64l b_shr64l u_xor64 g_eql64 g_neq64 g_eql64' g_neq64' c_u8_u8 c_u8_u32 c_u8_u64 c_i_u8 c_u32_u8 c_u32_u32 c_u32_u64 c_i_u32 c_u64_u8 c_u64_u32 c_u64_u64 c_i_u64 c_u8_i c_u32_i
attribute [local go_sem ↓] ce8 ce32 ce64
attribute [local go_sem ↓] sliced_slp loadODg storeODg loadOAd storeOAd
def rowP (n : Nat) (l : List UInt8) : Except Int (List UInt8 × Nat) := if l.length < n then .error 31 else .ok (l.take n, n)
theorem rowP_len {n : Nat} {l x : List UInt8} {c : Nat} (h : rowP n l = .ok (x, c)) : x.length = n := by
  unfold rowP at h
  split at h
  · cases h
  · injection h with h; injection h with h1 h2; subst h1; rw [List.length_take]; omega
/-- copy(dst, src) into a block of bytes of any type as one step of a region that draws its order. -/
theorem step_copyT {ops : Array Oper} {o : Oper} {a : Act} {w : World} {K : Act → World → Prop} {Q : Exit → Act → World → Prop} {E : Prop} (hgd : o.guard = none) (d s : Operand)
    (ho : o.op = .call { callee := .builtin .copy, args := #[d, s], argTypes := #[22, 22] }) (g off dLen dCap : Nat) (p : Option Addr) (n sCap : Nat) (src D : List UInt8)
    (hd : a.eval d = .slice (some ⟨g, off, none⟩) dLen dCap) (hs : a.eval s = .slice p n sCap) {t : TypeId} (hg : w.heap[g]? = some (.cells (D.map V8).toArray t (0, 0))) (hr : Rd V8 w p sCap src) (hn : n = src.length)
    (hfit : off + dLen ≤ D.length) (D' : List UInt8) (hD : D.take off ++ (src.take dLen ++ D.drop (off + min src.length dLen)) = D')
    (h : K (a.put o.dst (goInt ((min src.length dLen : Nat) : Int))) (w.setRow g (D'.map V8).toArray)) :
    if Region.wanted o (yielded ops a.tmps) = true then Oper.wp Try.prog o a w K Q else E := by
  have hw : Region.wanted o (yielded ops a.tmps) = true := by simp [Region.wanted, hgd]
  rw [if_pos hw]
  subst hn hD
  by_cases h0 : Nat.min src.length dLen = 0
  · have h0' : min src.length dLen = 0 := h0
    have e : D.take off ++ (src.take dLen ++ D.drop (off + min src.length dLen)) = D := by
      have e1 : src.take dLen = [] := by
        apply List.eq_nil_of_length_eq_zero; rw [List.length_take, Nat.min_comm]; exact h0'
      rw [e1, h0', List.nil_append, Nat.add_zero, List.take_append_drop]
    rw [e, h0', setRow_same hg] at h
    have hrun := run_copy_none (P := Try.prog) w 22 22 o.type 5 (some ⟨g, off, none⟩) p dLen dCap src.length sCap Try.underlying22 info5' h0
    unfold Oper.wp
    simp [execOp, ho, resolve, invoke, builtin, hd, hs, hrun, Result.andThen]
    exact (by simpa using h : K (a.put o.dst (goInt 0)) w)
  · have hne : src ≠ [] := by rintro rfl; exact h0 (by simp)
    obtain ⟨b, o', rfl, hrr⟩ := hr.at_ hne
    have hlm : (src.take dLen).length = min src.length dLen := by rw [List.length_take, Nat.min_comm]
    have hrun := run_copy_row (P := Try.prog) w 22 22 o.type 5 g off dLen dCap ⟨b, o', none⟩ src.length sCap _ _ ((src.take dLen).map V8) Try.underlying22 info5' hg (by rw [List.length_map, hlm]; try rfl) (by
        intro j v hj
        rw [Addr.add_mid]
        refine hrr j v ?_
        rw [List.getElem?_map, List.getElem?_take] at hj
        rw [List.getElem?_map]
        split at hj
        · exact hj
        · simp at hj) (by rw [List.length_map, hlm]; simp only [List.size_toArray, List.length_map]; omega) (fun v hv => by obtain ⟨x, _, rfl⟩ := List.mem_map.1 hv; exact one8 x)
    unfold Oper.wp
    simp [execOp, ho, resolve, invoke, builtin, hd, hs, hrun, Result.andThen]
    rw [← hlm] at h
    simp [List.map_append, List.map_take, List.map_drop] at h ⊢
    exact h
/-- A call with two arguments as one step of a region that draws its order, its answer told by what holds behind it. -/
theorem step_call2x {P : Program} {ops : Array Oper} {o : Oper} {a : Act} {w : World} {K : Act → World → Prop} {Q : Exit → Act → World → Prop} {E : Prop} (hgd : o.guard = none) (f : FuncId) (x x2 : Operand) (ats : Array TypeId)
    (ho : o.op = .call { callee := .value (.func f), args := #[x, x2], argTypes := ats }) (u u2 : Value) (hv : a.eval x = u) (hv2 : a.eval x2 = u2) (hf : ∀ (xs : Array Value) (w : World), (callFunc f xs).run P w = .ok (.enter f xs) w) {R : Value → World → Prop}
    (hc : Calls P f #[u, u2] w fun e w' => ∃ v, e = .returned v ∧ R v w') (h : ∀ v w', R v w' → K (a.put o.dst v) w') :
    if Region.wanted o (yielded ops a.tmps) = true then Oper.wp P o a w K Q else E := by
  have hw : Region.wanted o (yielded ops a.tmps) = true := by simp [Region.wanted, hgd]
  rw [if_pos hw]
  subst hv hv2
  have hrun : (execOp a.eval o).run P w = .ok (.enter f #[a.eval x, a.eval x2]) w := by
    simp [execOp, ho, resolve, invoke, Act.eval, Deferred.ofValue, hf]
  unfold Oper.wp
  rw [hrun]
  exact hc.mono fun e w' ⟨v, he, hr⟩ => by subst he; exact h v w' hr
/-- Such a call where it panics. -/
theorem step_panic2 {P : Program} {ops : Array Oper} {o : Oper} {a : Act} {w : World} {K : Act → World → Prop} {Q : Exit → Act → World → Prop} {E : Prop} (hgd : o.guard = none) (f : FuncId) (x x2 : Operand) (ats : Array TypeId)
    (ho : o.op = .call { callee := .value (.func f), args := #[x, x2], argTypes := ats }) (u u2 : Value) (hv : a.eval x = u) (hv2 : a.eval x2 = u2) (hf : ∀ (xs : Array Value) (w : World), (callFunc f xs).run P w = .ok (.enter f xs) w) {ch : List PanicEntry} {R : World → Prop}
    (hc : Calls P f #[u, u2] w fun e w' => e = .panicked ch ∧ R w') (h : ∀ w', R w' → Q (.panic ch) a w') :
    if Region.wanted o (yielded ops a.tmps) = true then Oper.wp P o a w K Q else E := by
  have hw : Region.wanted o (yielded ops a.tmps) = true := by simp [Region.wanted, hgd]
  rw [if_pos hw]
  subst hv hv2
  have hrun : (execOp a.eval o).run P w = .ok (.enter f #[a.eval x, a.eval x2]) w := by
    simp [execOp, ho, resolve, invoke, Act.eval, Deferred.ofValue, hf]
  unfold Oper.wp
  rw [hrun]
  exact hc.mono fun e w' ⟨he, hr⟩ => by subst he; exact h w' hr
theorem nextCall (xs : Array Value) (w : World) : (callFunc 99 xs).run Try.prog w = .ok (.enter 99 xs) w := by kernel_rfl
theorem over_all {n : Nat} (x : List UInt8) (hx : x.length = n) : (zeros n).take 0 ++ (x.take n ++ (zeros n).drop (0 + min x.length n)) = x := by
  rw [List.take_zero, List.nil_append, List.take_of_length_le (by omega), List.drop_of_length_le (by rw [zeros_length]; omega), List.append_nil]
theorem callDigest1 (xs : Array Value) (w : World) : (callFunc 103 xs).run Try.prog w = .ok (.enter 103 xs) w := by kernel_rfl
set_option maxRecDepth 100000 in
theorem digest1_yes (B g br bn : Nat) (v : Value) (R : Rr) (w : World) (h : IsR w B g v R) (x : List UInt8) (c : Nat) (hp : rowP 32 (R.b.drop R.at_) = .ok (x, c)) (hb : w.cell? ⟨br, 0, none⟩ = some (.pointer (some ⟨g, 0, none⟩))) (hn : w.heap[bn]? = some (.cells ((zeros 32).map V8).toArray 88 (0, 0))) (hne : bn ≠ g) (hv : v.ownBlock ≠ some bn) :
    Calls Try.prog 103 #[.pointer (some ⟨bn, 0, none⟩), .pointer (some ⟨br, 0, none⟩)] w fun e w' => e = .returned (.tuple #[]) ∧ IsR w' B g v { R with at_ := R.at_ + c } ∧ w'.heap[bn]? = some (.cells (x.map V8).toArray 88 (0, 0)) ∧ Mod [g, bn] w w' := by
  unfold rowP at hp
  split at hp
  case isTrue => cases hp
  rename_i hlt
  injection hp with hp
  injection hp with h1 h2
  subst h1 h2
  rw [List.length_drop] at hlt
  have HN := Lib.hid (next_any B g v R w.drew (h.mod0 (Mod.refl [] w).drew) 32 (by omega))
  have HB := Lib.hid hn
  have hxl : ((R.b.drop R.at_).take 32).length = 32 := by rw [List.length_take, List.length_drop]; omega
  obtain ⟨x, hx⟩ : ∃ x, x = (R.b.drop R.at_).take 32 := ⟨_, rfl⟩
  rw [← hx] at hxl ⊢
  have HX := Lib.hid hx
  have HXL := Lib.hid hxl
  clear h hn hlt hx hxl
  go_enter Try.func103, Try.ntmps103
  go_wp2_with fail
  go_region_law (first
    | (refine step_call2x rfl 99 (.tmp 3) (.const (.int .i64 32)) _ rfl (.pointer (some ⟨g, 0, none⟩)) (.int .i64 32) rfl rfl nextCall (R := fun u w' => ∃ q c, u = .slice q 32 c ∧ Rd V8 w' q c x ∧ IsR w' B g v { R with at_ := R.at_ + 32 } ∧ Mod [g] w.drew w') (HN.out.mono ?_) ?_
       · rintro e w3 ⟨q, c, rfl, hrd, _, hi, hm⟩
         rw [← HX.out] at hrd
         exact ⟨_, rfl, q, c, rfl, hrd, hi, hm⟩
       rintro _ w3 ⟨q, c, rfl, hrd, hi, hm⟩
       have hm0 : Mod [g] w w3 := ((Mod.refl [g] w).drew).trans hm (fun x hx => .inl hx)
       have hb3 := hm0.get HB.out (by simpa using hne)
       have HI := Lib.hid hi
       have HM := Lib.hid hm0
       have HB3 := Lib.hid hb3
       have HRD := Lib.hid hrd
       clear hi hm hm0 hb3 hrd)
    | (refine step_copyT rfl (.tmp 2) (.tmp 4) rfl bn 0 32 32 q 32 c x (zeros 32) rfl rfl HB3.out HRD.out HXL.out.symm (by simp [zeros_length]) x (over_all x HXL.out) ?_))
  obtain ⟨W4, hW4⟩ : ∃ W, W = w3.setRow bn (x.map V8).toArray := ⟨_, rfl⟩
  rw [← hW4]
  have HW4 := Lib.hid hW4
  clear hW4
  go_wp2_with fail
  go_end0
  rw [HW4.out]
  refine ⟨rfl, HI.out.mod ((Mod.refl [bn] w3).setRow (.inl (by simp)) _) (by simpa using hne.symm) (fun x hx => ?_), hp_setRow HB3.out, (HM.out.mono (S' := [g, bn]) (fun x hx => .inl (by simp at hx; simp [hx]))).setRow (.inl (by simp)) _⟩
  rw [List.mem_singleton] at hx
  subst hx
  exact hv
set_option maxRecDepth 100000 in
theorem digest1_no (B g br bn : Nat) (v : Value) (R : Rr) (w : World) (h : IsR w B g v R) (er : Int) (hp : rowP 32 (R.b.drop R.at_) = .error er) (hb : w.cell? ⟨br, 0, none⟩ = some (.pointer (some ⟨g, 0, none⟩))) :
    Calls Try.prog 103 #[.pointer (some ⟨bn, 0, none⟩), .pointer (some ⟨br, 0, none⟩)] w (GaveUp B g v R er w) := by
  unfold rowP at hp
  split at hp
  case isFalse => cases hp
  rename_i hlt
  injection hp with hp
  subst hp
  rw [List.length_drop] at hlt
  have HN := Lib.hid (next_short B g v R w.drew (h.mod0 (Mod.refl [] w).drew) 32 hlt (by omega))
  have HH := Lib.hid h
  clear h hlt
  go_enter Try.func103, Try.ntmps103
  go_wp2_with fail
  refine wp_region_any (by kernel_rfl) ?_
  change wpAny _ _ _ _ _ _ _ (World.drew _)
  refine wpAny_take (i := 0) (v := .slice (some ⟨bn, 0, none⟩) 32 32) rfl (by kernel_rfl) (by kernel_rfl) (by kernel_rfl) (fun _ _ _ h => h) (Or.inl ⟨by rfl, ?_⟩) ?_
  · intro w
    go_simp
  refine wpAny_ready (rs := [1]) (by kernel_rfl) (by simp) ?_
  refine AllReady.cons rfl (fun K hK => ?_) AllReady.nil
  go_simp
  refine hK _ _ ?_
  clear hK K
  refine wpAny_ready (rs := [2]) (by kernel_rfl) (by simp) ?_
  refine AllReady.cons rfl (fun K hK => ?_) AllReady.nil
  refine step_panic2 rfl 99 (.tmp 3) (.const (.int .i64 32)) _ rfl (.pointer (some ⟨g, 0, none⟩)) (.int .i64 32) rfl rfl nextCall HN.out ?_
  intro w3 hm
  exact ⟨rfl, GaveUp.same HH.out (((Mod.refl [] w).drew).trans0 hm)⟩
set_option maxRecDepth 100000 in
theorem rDigest_any (B g : Nat) (v : Value) (R : Rr) (w : World) (h : IsR w B g v R) :
    Calls Try.prog 72 #[.pointer (some ⟨g, 0, none⟩)] w (RrPost B g v (R.tk (zeros 32) (rowP 32)).1 (.agg ((R.tk (zeros 32) (rowP 32)).2.map V8).toArray) w) := by
  have hmf : ∀ (fn : Fn) (first cap : Array Value) (w : World), (Instr.makeFunc fn first cap).run Try.prog w = .ok (.func fn first cap) w := fun _ _ _ _ => rfl
  unfold RrPost Rr.tk
  have H := Lib.hid h
  have hgl := h.lt
  obtain ⟨W2, hW2⟩ : ∃ W, W = (w.alloc (.cells #[.pointer (some ⟨g, 0, none⟩)] 23)).alloc (.cells ((zeros 32).map V8).toArray 88) := ⟨_, rfl⟩
  have M2 : Mod [] w W2 := by rw [hW2]; exact ((Mod.refl [] w).alloc _).alloc _
  have hbr : W2.heap[w.heap.size]? = some (.cells #[.pointer (some ⟨g, 0, none⟩)] 23 (0, 0)) := by rw [hW2]; exact hp_old (hp_new w _ _ rfl)
  have hbn : W2.heap[w.heap.size + 1]? = some (.cells ((zeros 32).map V8).toArray 88 (0, 0)) := by rw [hW2]; exact hp_new _ _ _ (by simp)
  have h2 := h.mod0 M2
  have hsz := M2.size
  have hs2 : w.heap.size + 1 < W2.heap.size := lt_of_block hbn
  have hv1 : ∀ x, v.ownBlock = some x → x < w.heap.size := h.own_lt
  have cbr : W2.cell? ⟨w.heap.size, 0, none⟩ = some (.pointer (some ⟨g, 0, none⟩)) := by rw [cell_blk hbr]; rfl
  have HT : Hid (∀ (x : List UInt8) (R' : Rr) (w3 : World), x.length = 32 → IsR w3 B g v R' → Mod [g] w w3 → w3.heap[w.heap.size + 1]? = some (.cells (x.map V8).toArray 88 (0, 0)) → ∃ zs : Array Value, zs = (x.map V8).toArray ∧ zs.size = 32 ∧ 
      (LoadO 88 (.pointer (some ⟨w.heap.size + 1, 0, none⟩))).run Try.prog w3 = .ok (.agg zs) w3 ∧ (StoreO 88 (.pointer (some ⟨w.heap.size + 1, 0, none⟩)) (.agg zs)).run Try.prog w3 = .ok () (w3.setRow (w.heap.size + 1) zs) ∧
      (w3.setRow (w.heap.size + 1) zs).heap[w.heap.size + 1]? = some (.cells zs 88 (0, 0)) ∧ IsR (w3.setRow (w.heap.size + 1) zs) B g v R' ∧ Mod [g] w (w3.setRow (w.heap.size + 1) zs)) := by
    refine Lib.hid ?_
    intro x R' w3 hx hi hm hb
    have hzs : (x.map V8).toArray.size = 32 := by simp [hx]
    refine ⟨_, rfl, hzs, loadO_row hb Try.underlying88 rfl (by rw [hzs]; exact info32), storeO_row hb rfl (by rw [hzs]; exact info32) (by simp [one8]), hp_setRow hb, hi.mod ((Mod.refl [w.heap.size + 1] w3).setRow (.inl (by simp)) _) (by simp; omega) (fun y hy hv => ?_), hm.setRow (.inr (by simp)) _⟩
    rw [List.mem_singleton] at hy
    subst hy
    have := hv1 _ hv
    omega
  have HCB := Lib.hid cbr
  have HBN := Lib.hid hbn
  have HM2 := Lib.hid M2
  have H2 := Lib.hid h2
  have HW2 := Lib.hid hW2
  have HV := Lib.hid hv1
  clear h hbr hbn M2 h2 cbr hW2 hv1
  by_cases he : R.e = 0
  · rw [if_neg (by simpa using he)]
    cases hp : rowP 32 (R.b.drop R.at_) with
    | ok y =>
      obtain ⟨x, c⟩ := y
      have HXL := Lib.hid (rowP_len hp)
      have HTY := Lib.hid (try_yes B g v R W2 H2.out he 103 #[.pointer (some ⟨w.heap.size + 1, 0, none⟩), .pointer (some ⟨w.heap.size, 0, none⟩)] callDigest1
        (fun w1 w2 => IsR w2 B g v { R with at_ := R.at_ + c } ∧ w2.heap[w.heap.size + 1]? = some (.cells (x.map V8).toArray 88 (0, 0)) ∧ Mod [g, w.heap.size + 1] w1 w2)
        (fun w1 m1 => digest1_yes B g _ _ v R w1 (H2.out.mod0 m1) x c hp ((World.cell?_of_block (w := W2) (m1.block _ (by show w.heap.size < _; omega) (by simp))).trans HCB.out) (m1.get0 HBN.out) (by omega) (fun hv => by have := HV.out _ hv; omega)))
      clear he hp
      go_enter Try.func72, Try.ntmps72
      go_wp2_with fail
      refine Eq.mpr (congrArg (fun W => Calls _ _ _ W _) (show _ = W2 by rw [HW2.out]; rfl)) ?_
      refine HTY.out.mono ?_
      rintro e w3 ⟨rfl, w1, m1, hi, hb, hm⟩
      have M3 : Mod [g] w w3 := ((HM2.out.trans0 m1).mono (by simp)).trans hm (fun x hx => by
        simp at hx
        rcases hx with rfl | rfl
        · exact .inl (by simp)
        · exact .inr (by omega))
      obtain ⟨zs, hz1, hz2, hL, hS, g1, HE⟩ := HT.out x _ w3 HXL.out hi M3 hb
      have HG1 := Lib.hid g1
      have HZ1 := Lib.hid hz1
      have HZ2 := Lib.hid hz2
      clear m1 hi hb hm g1 hz1 hz2
      go_wp2_with fail
      exact bodyPost_ret (results_cell_row rfl _ _ (w.heap.size + 1) _ zs (0, 0) _ rfl HG1.out Try.underlying88 rfl (by rw [HZ2.out]; exact info32)) rfl ⟨by rw [HZ1.out], HE⟩
    | error er =>
      have HTY := Lib.hid (try_no B g v R W2 H2.out he 103 #[.pointer (some ⟨w.heap.size + 1, 0, none⟩), .pointer (some ⟨w.heap.size, 0, none⟩)] callDigest1 er [g] (by simp; omega)
        (fun w1 m1 => digest1_no B g _ _ v R w1 (H2.out.mod0 m1) er hp ((World.cell?_of_block (w := W2) (m1.block _ (by show w.heap.size < _; omega) (by simp))).trans HCB.out)))
      clear he hp
      go_enter Try.func72, Try.ntmps72
      go_wp2_with fail
      refine Eq.mpr (congrArg (fun W => Calls _ _ _ W _) (show _ = W2 by rw [HW2.out]; rfl)) ?_
      refine HTY.out.mono ?_
      rintro e w3 ⟨rfl, hi, hm⟩
      have hb := hm.get HBN.out (by simp; omega)
      have M3 : Mod [g] w w3 := (HM2.out.mono (by simp)).trans hm (fun x hx => .inl (by simpa using hx))
      obtain ⟨zs, hz1, hz2, hL, hS, g1, HE⟩ := HT.out (zeros 32) _ w3 (zeros_length 32) hi M3 hb
      have HG1 := Lib.hid g1
      have HZ1 := Lib.hid hz1
      have HZ2 := Lib.hid hz2
      clear hi hb hm g1 hz1 hz2
      go_wp2_with fail
      exact bodyPost_ret (results_cell_row rfl _ _ (w.heap.size + 1) _ zs (0, 0) _ rfl HG1.out Try.underlying88 rfl (by rw [HZ2.out]; exact info32)) rfl ⟨by rw [HZ1.out], HE⟩
  · rw [if_pos he]
    refine (rDigest_skip B g v R w H.out he).mono ?_
    rintro e w' ⟨rfl, hm⟩
    exact ⟨rfl, H.out.mod0 hm, hm.mono (by simp)⟩
theorem callAddress1 (xs : Array Value) (w : World) : (callFunc 104 xs).run Try.prog w = .ok (.enter 104 xs) w := by kernel_rfl
set_option maxRecDepth 100000 in
theorem address1_yes (B g br bn : Nat) (v : Value) (R : Rr) (w : World) (h : IsR w B g v R) (x : List UInt8) (c : Nat) (hp : rowP 20 (R.b.drop R.at_) = .ok (x, c)) (hb : w.cell? ⟨br, 0, none⟩ = some (.pointer (some ⟨g, 0, none⟩))) (hn : w.heap[bn]? = some (.cells ((zeros 20).map V8).toArray 92 (0, 0))) (hne : bn ≠ g) (hv : v.ownBlock ≠ some bn) :
    Calls Try.prog 104 #[.pointer (some ⟨bn, 0, none⟩), .pointer (some ⟨br, 0, none⟩)] w fun e w' => e = .returned (.tuple #[]) ∧ IsR w' B g v { R with at_ := R.at_ + c } ∧ w'.heap[bn]? = some (.cells (x.map V8).toArray 92 (0, 0)) ∧ Mod [g, bn] w w' := by
  unfold rowP at hp
  split at hp
  case isTrue => cases hp
  rename_i hlt
  injection hp with hp
  injection hp with h1 h2
  subst h1 h2
  rw [List.length_drop] at hlt
  have HN := Lib.hid (next_any B g v R w.drew (h.mod0 (Mod.refl [] w).drew) 20 (by omega))
  have HB := Lib.hid hn
  have hxl : ((R.b.drop R.at_).take 20).length = 20 := by rw [List.length_take, List.length_drop]; omega
  obtain ⟨x, hx⟩ : ∃ x, x = (R.b.drop R.at_).take 20 := ⟨_, rfl⟩
  rw [← hx] at hxl ⊢
  have HX := Lib.hid hx
  have HXL := Lib.hid hxl
  clear h hn hlt hx hxl
  go_enter Try.func104, Try.ntmps104
  go_wp2_with fail
  go_region_law (first
    | (refine step_call2x rfl 99 (.tmp 3) (.const (.int .i64 20)) _ rfl (.pointer (some ⟨g, 0, none⟩)) (.int .i64 20) rfl rfl nextCall (R := fun u w' => ∃ q c, u = .slice q 20 c ∧ Rd V8 w' q c x ∧ IsR w' B g v { R with at_ := R.at_ + 20 } ∧ Mod [g] w.drew w') (HN.out.mono ?_) ?_
       · rintro e w3 ⟨q, c, rfl, hrd, _, hi, hm⟩
         rw [← HX.out] at hrd
         exact ⟨_, rfl, q, c, rfl, hrd, hi, hm⟩
       rintro _ w3 ⟨q, c, rfl, hrd, hi, hm⟩
       have hm0 : Mod [g] w w3 := ((Mod.refl [g] w).drew).trans hm (fun x hx => .inl hx)
       have hb3 := hm0.get HB.out (by simpa using hne)
       have HI := Lib.hid hi
       have HM := Lib.hid hm0
       have HB3 := Lib.hid hb3
       have HRD := Lib.hid hrd
       clear hi hm hm0 hb3 hrd)
    | (refine step_copyT rfl (.tmp 2) (.tmp 4) rfl bn 0 20 20 q 20 c x (zeros 20) rfl rfl HB3.out HRD.out HXL.out.symm (by simp [zeros_length]) x (over_all x HXL.out) ?_))
  obtain ⟨W4, hW4⟩ : ∃ W, W = w3.setRow bn (x.map V8).toArray := ⟨_, rfl⟩
  rw [← hW4]
  have HW4 := Lib.hid hW4
  clear hW4
  go_wp2_with fail
  go_end0
  rw [HW4.out]
  refine ⟨rfl, HI.out.mod ((Mod.refl [bn] w3).setRow (.inl (by simp)) _) (by simpa using hne.symm) (fun x hx => ?_), hp_setRow HB3.out, (HM.out.mono (S' := [g, bn]) (fun x hx => .inl (by simp at hx; simp [hx]))).setRow (.inl (by simp)) _⟩
  rw [List.mem_singleton] at hx
  subst hx
  exact hv
set_option maxRecDepth 100000 in
theorem address1_no (B g br bn : Nat) (v : Value) (R : Rr) (w : World) (h : IsR w B g v R) (er : Int) (hp : rowP 20 (R.b.drop R.at_) = .error er) (hb : w.cell? ⟨br, 0, none⟩ = some (.pointer (some ⟨g, 0, none⟩))) :
    Calls Try.prog 104 #[.pointer (some ⟨bn, 0, none⟩), .pointer (some ⟨br, 0, none⟩)] w (GaveUp B g v R er w) := by
  unfold rowP at hp
  split at hp
  case isFalse => cases hp
  rename_i hlt
  injection hp with hp
  subst hp
  rw [List.length_drop] at hlt
  have HN := Lib.hid (next_short B g v R w.drew (h.mod0 (Mod.refl [] w).drew) 20 hlt (by omega))
  have HH := Lib.hid h
  clear h hlt
  go_enter Try.func104, Try.ntmps104
  go_wp2_with fail
  refine wp_region_any (by kernel_rfl) ?_
  change wpAny _ _ _ _ _ _ _ (World.drew _)
  refine wpAny_take (i := 0) (v := .slice (some ⟨bn, 0, none⟩) 20 20) rfl (by kernel_rfl) (by kernel_rfl) (by kernel_rfl) (fun _ _ _ h => h) (Or.inl ⟨by rfl, ?_⟩) ?_
  · intro w
    go_simp
  refine wpAny_ready (rs := [1]) (by kernel_rfl) (by simp) ?_
  refine AllReady.cons rfl (fun K hK => ?_) AllReady.nil
  go_simp
  refine hK _ _ ?_
  clear hK K
  refine wpAny_ready (rs := [2]) (by kernel_rfl) (by simp) ?_
  refine AllReady.cons rfl (fun K hK => ?_) AllReady.nil
  refine step_panic2 rfl 99 (.tmp 3) (.const (.int .i64 20)) _ rfl (.pointer (some ⟨g, 0, none⟩)) (.int .i64 20) rfl rfl nextCall HN.out ?_
  intro w3 hm
  exact ⟨rfl, GaveUp.same HH.out (((Mod.refl [] w).drew).trans0 hm)⟩
set_option maxRecDepth 100000 in
theorem rAddress_any (B g : Nat) (v : Value) (R : Rr) (w : World) (h : IsR w B g v R) :
    Calls Try.prog 73 #[.pointer (some ⟨g, 0, none⟩)] w (RrPost B g v (R.tk (zeros 20) (rowP 20)).1 (.agg ((R.tk (zeros 20) (rowP 20)).2.map V8).toArray) w) := by
  have hmf : ∀ (fn : Fn) (first cap : Array Value) (w : World), (Instr.makeFunc fn first cap).run Try.prog w = .ok (.func fn first cap) w := fun _ _ _ _ => rfl
  unfold RrPost Rr.tk
  have H := Lib.hid h
  have hgl := h.lt
  obtain ⟨W2, hW2⟩ : ∃ W, W = (w.alloc (.cells #[.pointer (some ⟨g, 0, none⟩)] 23)).alloc (.cells ((zeros 20).map V8).toArray 92) := ⟨_, rfl⟩
  have M2 : Mod [] w W2 := by rw [hW2]; exact ((Mod.refl [] w).alloc _).alloc _
  have hbr : W2.heap[w.heap.size]? = some (.cells #[.pointer (some ⟨g, 0, none⟩)] 23 (0, 0)) := by rw [hW2]; exact hp_old (hp_new w _ _ rfl)
  have hbn : W2.heap[w.heap.size + 1]? = some (.cells ((zeros 20).map V8).toArray 92 (0, 0)) := by rw [hW2]; exact hp_new _ _ _ (by simp)
  have h2 := h.mod0 M2
  have hsz := M2.size
  have hs2 : w.heap.size + 1 < W2.heap.size := lt_of_block hbn
  have hv1 : ∀ x, v.ownBlock = some x → x < w.heap.size := h.own_lt
  have cbr : W2.cell? ⟨w.heap.size, 0, none⟩ = some (.pointer (some ⟨g, 0, none⟩)) := by rw [cell_blk hbr]; rfl
  have HT : Hid (∀ (x : List UInt8) (R' : Rr) (w3 : World), x.length = 20 → IsR w3 B g v R' → Mod [g] w w3 → w3.heap[w.heap.size + 1]? = some (.cells (x.map V8).toArray 92 (0, 0)) → ∃ zs : Array Value, zs = (x.map V8).toArray ∧ zs.size = 20 ∧ 
      (LoadO 92 (.pointer (some ⟨w.heap.size + 1, 0, none⟩))).run Try.prog w3 = .ok (.agg zs) w3 ∧ (StoreO 92 (.pointer (some ⟨w.heap.size + 1, 0, none⟩)) (.agg zs)).run Try.prog w3 = .ok () (w3.setRow (w.heap.size + 1) zs) ∧
      (w3.setRow (w.heap.size + 1) zs).heap[w.heap.size + 1]? = some (.cells zs 92 (0, 0)) ∧ IsR (w3.setRow (w.heap.size + 1) zs) B g v R' ∧ Mod [g] w (w3.setRow (w.heap.size + 1) zs)) := by
    refine Lib.hid ?_
    intro x R' w3 hx hi hm hb
    have hzs : (x.map V8).toArray.size = 20 := by simp [hx]
    refine ⟨_, rfl, hzs, loadO_row hb Try.underlying92 rfl (by rw [hzs]; exact info20), storeO_row hb rfl (by rw [hzs]; exact info20) (by simp [one8]), hp_setRow hb, hi.mod ((Mod.refl [w.heap.size + 1] w3).setRow (.inl (by simp)) _) (by simp; omega) (fun y hy hv => ?_), hm.setRow (.inr (by simp)) _⟩
    rw [List.mem_singleton] at hy
    subst hy
    have := hv1 _ hv
    omega
  have HCB := Lib.hid cbr
  have HBN := Lib.hid hbn
  have HM2 := Lib.hid M2
  have H2 := Lib.hid h2
  have HW2 := Lib.hid hW2
  have HV := Lib.hid hv1
  clear h hbr hbn M2 h2 cbr hW2 hv1
  by_cases he : R.e = 0
  · rw [if_neg (by simpa using he)]
    cases hp : rowP 20 (R.b.drop R.at_) with
    | ok y =>
      obtain ⟨x, c⟩ := y
      have HXL := Lib.hid (rowP_len hp)
      have HTY := Lib.hid (try_yes B g v R W2 H2.out he 104 #[.pointer (some ⟨w.heap.size + 1, 0, none⟩), .pointer (some ⟨w.heap.size, 0, none⟩)] callAddress1
        (fun w1 w2 => IsR w2 B g v { R with at_ := R.at_ + c } ∧ w2.heap[w.heap.size + 1]? = some (.cells (x.map V8).toArray 92 (0, 0)) ∧ Mod [g, w.heap.size + 1] w1 w2)
        (fun w1 m1 => address1_yes B g _ _ v R w1 (H2.out.mod0 m1) x c hp ((World.cell?_of_block (w := W2) (m1.block _ (by show w.heap.size < _; omega) (by simp))).trans HCB.out) (m1.get0 HBN.out) (by omega) (fun hv => by have := HV.out _ hv; omega)))
      clear he hp
      go_enter Try.func73, Try.ntmps73
      go_wp2_with fail
      refine Eq.mpr (congrArg (fun W => Calls _ _ _ W _) (show _ = W2 by rw [HW2.out]; rfl)) ?_
      refine HTY.out.mono ?_
      rintro e w3 ⟨rfl, w1, m1, hi, hb, hm⟩
      have M3 : Mod [g] w w3 := ((HM2.out.trans0 m1).mono (by simp)).trans hm (fun x hx => by
        simp at hx
        rcases hx with rfl | rfl
        · exact .inl (by simp)
        · exact .inr (by omega))
      obtain ⟨zs, hz1, hz2, hL, hS, g1, HE⟩ := HT.out x _ w3 HXL.out hi M3 hb
      have HG1 := Lib.hid g1
      have HZ1 := Lib.hid hz1
      have HZ2 := Lib.hid hz2
      clear m1 hi hb hm g1 hz1 hz2
      go_wp2_with fail
      exact bodyPost_ret (results_cell_row rfl _ _ (w.heap.size + 1) _ zs (0, 0) _ rfl HG1.out Try.underlying92 rfl (by rw [HZ2.out]; exact info20)) rfl ⟨by rw [HZ1.out], HE⟩
    | error er =>
      have HTY := Lib.hid (try_no B g v R W2 H2.out he 104 #[.pointer (some ⟨w.heap.size + 1, 0, none⟩), .pointer (some ⟨w.heap.size, 0, none⟩)] callAddress1 er [g] (by simp; omega)
        (fun w1 m1 => address1_no B g _ _ v R w1 (H2.out.mod0 m1) er hp ((World.cell?_of_block (w := W2) (m1.block _ (by show w.heap.size < _; omega) (by simp))).trans HCB.out)))
      clear he hp
      go_enter Try.func73, Try.ntmps73
      go_wp2_with fail
      refine Eq.mpr (congrArg (fun W => Calls _ _ _ W _) (show _ = W2 by rw [HW2.out]; rfl)) ?_
      refine HTY.out.mono ?_
      rintro e w3 ⟨rfl, hi, hm⟩
      have hb := hm.get HBN.out (by simp; omega)
      have M3 : Mod [g] w w3 := (HM2.out.mono (by simp)).trans hm (fun x hx => .inl (by simpa using hx))
      obtain ⟨zs, hz1, hz2, hL, hS, g1, HE⟩ := HT.out (zeros 20) _ w3 (zeros_length 20) hi M3 hb
      have HG1 := Lib.hid g1
      have HZ1 := Lib.hid hz1
      have HZ2 := Lib.hid hz2
      clear hi hb hm g1 hz1 hz2
      go_wp2_with fail
      exact bodyPost_ret (results_cell_row rfl _ _ (w.heap.size + 1) _ zs (0, 0) _ rfl HG1.out Try.underlying92 rfl (by rw [HZ2.out]; exact info20)) rfl ⟨by rw [HZ1.out], HE⟩
  · rw [if_pos he]
    refine (rAddress_skip B g v R w H.out he).mono ?_
    rintro e w' ⟨rfl, hm⟩
    exact ⟨rfl, H.out.mod0 hm, hm.mono (by simp)⟩
end Go.Proofs.Ytnmcbdppbpfegaa
