/- The program's log of leaves: New, Size, Front, Resume. Conditions: as TrBits. -/
import Derived.Test.YtbbobpjcbnfpfaaDoorTrBits
import Derived.Test.YtbbobpjcbnfpfaaDoorTrOwned
import Derived.Lib.SliceRun
namespace Go.Proofs.YtbbobpjcbnfpfaaDoor
open Go.RowKit
attribute [local go_sem high] one8 st8 cm8 b_and8 b_and8r b_and8l b_or8 b_or8r b_or8l b_xor8 b_xor8r b_xor8l b_andNot8 b_andNot8r b_andNot8l b_add8 b_add8r b_add8l b_sub8 b_sub8r b_sub8l b_mul8 b_mul8r b_mul8l b_eql8 b_eql8r b_eql8l b_neq8 b_neq8r b_neq8l b_lss8 b_lss8r b_lss8l b_leq8 b_leq8r b_leq8l b_gtr8 b_gtr8r b_gtr8l b_geq8 b_geq8r b_geq8l b_quo8r b_rem8r b_shl8r b_shr8r b_shl8l b_shr8l u_xor8 g_eql8 g_neq8 g_eql8' g_neq8' one32 st32 cm32 b_and32 b_and32r b_and32l b_or32 b_or32r b_or32l b_xor32 b_xor32r b_xor32l b_andNot32 b_andNot32r b_andNot32l b_add32 b_add32r b_add32l b_sub32 b_sub32r b_sub32l b_mul32 b_mul32r b_mul32l b_eql32 b_eql32r b_eql32l b_neq32 b_neq32r b_neq32l b_lss32 b_lss32r b_lss32l b_leq32 b_leq32r b_leq32l b_gtr32 b_gtr32r b_gtr32l b_geq32 b_geq32r b_geq32l b_quo32r b_rem32r b_shl32r b_shr32r b_shl32l b_shr32l u_xor32 g_eql32 g_neq32 g_eql32' g_neq32' one64 st64 cm64 b_and64 b_and64r b_and64l b_or64 b_or64r b_or64l b_xor64 b_xor64r b_xor64l b_andNot64 b_andNot64r b_andNot64l b_add64 b_add64r b_add64l b_sub64 b_sub64r b_sub64l b_mul64 b_mul64r b_mul64l b_eql64 b_eql64r b_eql64l b_neq64 b_neq64r b_neq64l b_lss64 b_lss64r b_lss64l b_leq64 b_leq64r b_leq64l b_gtr64 b_gtr64r b_gtr64l b_geq64 b_geq64r b_geq64l b_quo64r b_rem64r b_shl64r b_shr64r b_shl64l b_shr64l u_xor64 g_eql64 g_neq64 g_eql64' g_neq64' c_u8_u8 c_u8_u32 c_u8_u64 c_i_u8 c_u32_u8 c_u32_u32 c_u32_u64 c_i_u32 c_u64_u8 c_u64_u32 c_u64_u64 c_i_u64 c_u8_i c_u32_i
attribute [local go_sem ↓] ce8 ce32 ce64
attribute [local go_sem ↓] sliced_slp loadO26 storeO26 buildO24
theorem run_build0 (w : World) : (BuildSlO 42 0 #[]).run Tryd.prog w = .ok (.slice (some ⟨w.heap.size, 0, none⟩) 0 0) (w.alloc (.cells #[] 24)) := by
  have hu := Tryd.underlying42
  obtain ⟨i0, hi, hz0, hz1, hz2⟩ := info_parts infoD
  have hsz : (sizeOf 24).run Tryd.prog w = .ok 32 w := run_sizeOf (by rw [hi]; simp [hz1]) w
  unfold BuildSlO Instr.buildSlice
  rw [Sem.run_bind, run_underlying hu]
  simp only [Result.andThen_ok]
  rw [Sem.run_bind, hsz]
  simp [newRow, Instr.fill]
  exact congrArg (fun z => w.alloc (.cells z 24)) (Array.ext (by simp) (fun i h1 h2 => absurd h2 (by simp)))
theorem ownD_zero (w : World) (B : Nat) (hB : B ≤ w.heap.size) : OwnD (w.alloc (.cells #[] 24)) B (.slice (some ⟨w.heap.size, 0, none⟩) 0 0) [] :=
  ⟨rfl, .inr ⟨_, 0, #[], rfl, hB, hp_new w _ _ rfl, Nat.le_refl _, Nat.zero_le _, rfl, rfl⟩⟩
theorem run_append_zeroD {w : World} {B c : Nat} {v : Value} {l : List Bs} {q : Option Addr} (ty : TypeId) (hown : OwnD w B v l) :
    (Builtin.append_ #[42, 42] ty #[v, .slice q 0 c]).run Tryd.prog w = .ok v w := by
  obtain ⟨i0, hi, hz0, hz1, hz2⟩ := info_parts infoD
  have ht := Tryd.underlying42
  have hl : ∀ (x : Addr), (loadCells x 0).run Tryd.prog w = .ok #[] w := fun x => by simpa using run_loadCells_list (P := Tryd.prog) w x [] (by simp)
  rcases hown.2 with ⟨rfl, h0⟩ | ⟨g, cap, cur, rfl, _, _, hnc, _⟩
  · cases q <;> simp [Builtin.append_, run_underlying ht, sizeOf, typeInfo, hi, Builtin.lenOf, Builtin.firstCells, hl]
  · cases q <;> simp [Builtin.append_, run_underlying ht, sizeOf, typeInfo, hi, Builtin.lenOf, Builtin.firstCells, hnc, storeCells, hl]
/-- append(list, other...) over digests, none too. -/
theorem pushDs {ops : Array Oper} {rest : List Oper} {o : Oper} {a : Act} {Q : Exit → Act → World → Prop} {w : World} (hgd : o.guard = none) (s x : Operand)
    (ho : o.op = .call { callee := .builtin .append, args := #[s, x], argTypes := #[42, 42] }) (B : Nat) (v : Value) (l : List Bs) (hown : OwnD w B v l) (hs : a.eval s = v) (p : Option Addr) (n c : Nat) (ds : List Bs) (hx : a.eval x = .slice p n c) (hn : n = ds.length)
    (hr : RdD w p c ds) (hl : l.length ≤ 4294967296) (hl2 : ds.length ≤ 4294967296) (hbase : B ≤ w.heap.size)
    (h : ∀ v' w', OwnD w' B v' (l ++ ds) → w.grownBy w' v.ownBlock → wpList Tryd.prog ops Q rest (a.put o.dst v') w') : wpList Tryd.prog ops Q (o :: rest) a w := by
  by_cases h0 : ds = []
  · subst h0
    subst hn
    refine wpList_plain hgd fun K hK => ?_
    have hrun := run_append_zeroD (c := c) (q := p) o.type hown
    have hx' : a.eval x = .slice p 0 c := hx
    unfold Oper.wp
    simp [execOp, ho, resolve, invoke, builtin, hs, hx', hrun, Result.andThen]
    have h' := h v w (by rw [List.append_nil]; exact hown) ⟨rfl, rfl, rfl, Nat.le_refl _, fun _ _ _ => rfl⟩
    exact hK _ _ (by simpa using h')
  · obtain ⟨b, o', rfl, hrr⟩ := hr.at_ h0
    exact wpList_pushN (dv (zeros 32)) 32 Tryd.underlying42 infoD rfl (by decide) dgc_len dgc_one hgd s x ho B v l hown hs b o' n c ds hx hn hrr (by unfold maxLen; omega) (by omega) hbase h
attribute [local go_sem ↓] buildSlO42
/-- A list of the call's own that reads so is handed back. -/
def DgsPost (l : List Bs) (w : World) (e : Ending) (w' : World) : Prop := ∃ v, e = .returned v ∧ OwnD w' w.heap.size v l ∧ Mod [] w w'
set_option maxRecDepth 100000 in
theorem clone_any (p : Option Addr) (n c : Nat) (l : List Bs) (w : World) (hn : n = l.length) (hr : RdD w p c l) (hl : l.length ≤ 4294967296) :
    Calls Tryd.prog 78 #[.slice p n c] w (DgsPost l w) := by
  have q42 : ∀ (w : World) (a : Option Addr) (n c n' c' : Nat), (binOp .eql 42 (.slice a n c) (.slice none n' c')).run Tryd.prog w = .ok (.bool a.isNone) w := fun w a n c n' c' => Lib.run_eql_slice_nil w 42 24 a n c n' c' Tryd.underlying42
  cases p with
  | none =>
    have h0 : l = [] := by
      by_cases h : l = []
      · exact h
      · obtain ⟨b, o, he, _⟩ := hr.at_ h; cases he
    subst h0
    simp at hn
    subst hn
    clear hr hl
    go_enter Tryd.func78, Tryd.ntmps78
    go_wp2_with fail
    go_ret
    exact ⟨_, rfl, OwnN.nil _ _ _ _ _, Mod.refl _ _⟩
  | some a =>
    have hB := run_build0
    have HR := Lib.hid hr
    clear hr
    go_enter Tryd.func78, Tryd.ntmps78
    go_wp2_with (at_builtin; with_reducible refine froz_app _ _ rfl ?_)
    unfold Froz
    refine pushDs rfl _ _ rfl w.heap.size _ [] (ownD_zero w _ (Nat.le_refl _)) rfl (some a) n c l rfl hn (HR.out.mod0 ((Mod.refl [] w).alloc _)) (by simp) hl (by simp) ?_
    intro v' w' ho hg
    have HO := Lib.hid ho
    have HM := Lib.hid (((Mod.refl [] w).alloc (.cells #[] 24)).of_grown hg (fun g hg' => .inr (by cases hg'; exact Nat.le_refl _)))
    clear ho hg
    go_wp2_with fail
    go_ret
    exact ⟨_, rfl, HO.out, HM.out⟩
/-- A log in memory: its block, its list. -/
structure IsLog (w : World) (B g : Nat) (size : Nat) (v : Value) (front : List Bs) : Prop where
  blk : w.heap[g]? = some (.cells #[.int .i64 size, v] 113)
  base : B ≤ g
  own : OwnD w B v front
  a32 : All32 front
  cnt : front.length = ones size
  sz : size ≤ 1099511627776
namespace IsLog
variable {a w : World} {B g size : Nat} {v : Value} {front : List Bs}
theorem mod {S : List Nat} (h : IsLog a B g size v front) (m : Mod S a w) (hg : g ∉ S) (hv : ∀ x ∈ S, v.ownBlock ≠ some x) : IsLog w B g size v front := ⟨m.get h.blk hg, h.base, h.own.mod m hv, h.a32, h.cnt, h.sz⟩
theorem mod0 (h : IsLog a B g size v front) (m : Mod [] a w) : IsLog w B g size v front := h.mod m (by simp) (by simp)
theorem len (h : IsLog w B g size v front) : front.length ≤ 41 := by rw [h.cnt]; exact ones_le 41 size (by have := h.sz; omega)
theorem c0 (h : IsLog w B g size v front) : w.cell? ⟨g, 0, none⟩ = some (.int .i64 size) := by rw [cell_blk h.blk]; rfl
theorem c1 (h : IsLog w B g size v front) : w.cell? ⟨g, 1, none⟩ = some v := by rw [cell_blk h.blk]; rfl
theorem ne (h : IsLog w B g size v front) : v.ownBlock ≠ some g := by
  intro hx
  obtain ⟨C, hC⟩ := h.own.type g hx
  rw [h.blk] at hC
  injection hC with hC
  injection hC with _ h2 _
  exact absurd h2 (by decide)
theorem lt (h : IsLog w B g size v front) : g < w.heap.size := lt_of_block h.blk
end IsLog
/-- A log is handed back. -/
def LogPost (size : Nat) (front : List Bs) (w : World) (v : Value) (w' : World) : Prop := ∃ g u, v = .pointer (some ⟨g, 0, none⟩) ∧ IsLog w' w.heap.size g size u front ∧ Mod [] w w'
set_option maxRecDepth 100000 in
theorem new_log (w : World) : Calls Tryd.prog 47 #[] w fun e w' => ∃ v, e = .returned v ∧ LogPost 0 [] w v w' := by
  go_enter Tryd.func47, Tryd.ntmps47
  go_wp2_with fail
  go_ret
  exact ⟨_, rfl, w.heap.size, .slice none 0 0, rfl, ⟨hp_new w _ _ rfl, Nat.le_refl _, OwnN.nil _ _ _ _ _, fun x hx => by simp at hx, by simp [ones], by omega⟩, (Mod.refl [] w).alloc _⟩
set_option maxRecDepth 100000 in
theorem size_any (B g size : Nat) (v : Value) (front : List Bs) (w : World) (h : IsLog w B g size v front) :
    Calls Tryd.prog 51 #[.pointer (some ⟨g, 0, none⟩)] w fun e w' => e = .returned (.int .i64 size) ∧ w = w' := by
  have c0 := h.c0
  clear h
  go_enter Tryd.func51, Tryd.ntmps51
  go_wp2_with fail
  go_ret
  exact ⟨rfl, rfl⟩
set_option maxRecDepth 100000 in
theorem front_any (B g size : Nat) (v : Value) (front : List Bs) (w : World) (h : IsLog w B g size v front) :
    Calls Tryd.prog 54 #[.pointer (some ⟨g, 0, none⟩)] w (DgsPost front w) := by
  have c1 := h.c1
  have hl := h.len
  obtain ⟨p, c, rfl, hr, _⟩ := h.own.rd
  have HC := Lib.hid (clone_any p _ c front w rfl hr (by omega))
  clear h hr
  go_enter Tryd.func54, Tryd.ntmps54
  go_wp2_with fail
  refine HC.out.mono ?_
  rintro e w1 ⟨u, rfl, ho, m⟩
  go_wp2_with fail
  go_ret
  exact ⟨_, rfl, ho, m⟩
theorem v64_of (n : Nat) (h : n < 18446744073709551616) : V64 (UInt64.ofNat n) = .int .u64 n := by
  unfold V64
  rw [UInt64.toNat_ofNat', Nat.mod_eq_of_lt (by omega)]
/-- What Resume answers. -/
def resumeE (size : Int) (front : List Bs) : Int := if size < 0 ∨ 1099511627776 < size then 40 else if front.length ≠ ones size.toNat then 42 else 0
def ResPost (size : Int) (front : List Bs) (w : World) (e : Ending) (w' : World) : Prop :=
  ∃ v, e = .returned (.tuple #[v, .int .i64 (resumeE size front)]) ∧ (if resumeE size front = 0 then LogPost size.toNat front w v w' else v = .pointer none) ∧ Mod [] w w'
set_option maxRecDepth 100000 in
theorem resume_any (size : Int) (p : Option Addr) (n c : Nat) (front : List Bs) (w : World) (hn : n = front.length) (hr : RdD w p c front) (a32 : All32 front) (hl : front.length ≤ 4294967296) :
    Calls Tryd.prog 56 #[.int .i64 size, .slice p n c] w (ResPost size front w) := by
  by_cases hb : size < 0 ∨ 1099511627776 < size
  · have hE : resumeE size front = 40 := by unfold resumeE; rw [if_pos hb]
    suffices hc : Calls Tryd.prog 56 #[.int .i64 size, .slice p n c] w (fun e w' => e = .returned (.tuple #[.pointer none, .int .i64 40]) ∧ w = w') by
      refine hc.mono ?_
      rintro e w' ⟨rfl, rfl⟩
      exact ⟨_, by rw [hE], by rw [hE, if_neg (by decide)], Mod.refl _ _⟩
    by_cases h1 : size < 0
    · clear hb hE
      go_enter Tryd.func56, Tryd.ntmps56
      go_wp2_with fail
      go_ret2
      exact ⟨rfl, rfl⟩
    · have h2 : 1099511627776 < size := by omega
      have h3 : ¬ size < 0 := by omega
      clear hb h1 hE
      go_enter Tryd.func56, Tryd.ntmps56
      go_wp2_with fail
      go_ret2
      exact ⟨rfl, rfl⟩
  · obtain ⟨s, rfl⟩ : ∃ s : Nat, size = s := ⟨size.toNat, by omega⟩
    have hs : s ≤ 1099511627776 := by omega
    have f1 : (0 : Int) ≤ (s : Int) := by omega
    have f2 : (s : Int) ≤ 1099511627776 := by omega
    have HO := Lib.hid (fun w => show Calls Tryd.prog 79 #[V64 (UInt64.ofNat s)] w fun e w' => e = .returned (.int .i64 (ones s)) ∧ w = w' by rw [v64_of s (by omega)]; exact onesCount_any s w (by omega))
    have hw : IntKind.u64.wrap (s : Int) = (s : Int) := by rw [IntKind.wrap_u64]; omega
    have hol := ones_le 41 s (by omega)
    by_cases hc : front.length = ones s
    · have hE : resumeE s front = 0 := by unfold resumeE; rw [if_neg hb, Int.toNat_natCast, if_neg (by simp [hc])]
      suffices hx : Calls Tryd.prog 56 #[.int .i64 s, .slice p n c] w (fun e w' => ∃ v, e = .returned (.tuple #[v, .int .i64 0]) ∧ LogPost s front w v w' ∧ Mod [] w w') by
        refine hx.mono ?_
        rintro e w' ⟨v, rfl, h1, h2⟩
        exact ⟨_, by rw [hE], by rw [hE, if_pos rfl, Int.toNat_natCast]; exact h1, h2⟩
      have e4 : ((n : Int) != (ones s : Int)) = false := by simp; omega
      have HCL := Lib.hid (clone_any p n c front w hn hr hl)
      have HC := Lib.hid hc
      have HN := Lib.hid (hn.trans hc)
      clear hr hc hn hb hE
      go_enter Tryd.func56, Tryd.ntmps56
      go_wp2_with fail
      refine (HO.out _).mono ?_
      rintro e w1 ⟨rfl, rfl⟩
      rw [← HN.out] at *
      go_wp2_with fail
      refine HCL.out.mono ?_
      rintro e w2 ⟨u, rfl, ho, m⟩
      obtain ⟨p2, c2, rfl, _, _⟩ := ho.rd
      have HOW := Lib.hid ho
      clear ho
      go_wp2_with fail
      go_ret2
      exact ⟨_, rfl, ⟨w2.heap.size, _, rfl, ⟨hp_new w2 _ _ rfl, m.size, HOW.out.alloc _, a32, HC.out, hs⟩, m.alloc _⟩, m.alloc _⟩
    · have hE : resumeE s front = 42 := by unfold resumeE; rw [if_neg hb, Int.toNat_natCast, if_pos hc]
      suffices hx : Calls Tryd.prog 56 #[.int .i64 s, .slice p n c] w (fun e w' => e = .returned (.tuple #[.pointer none, .int .i64 42]) ∧ w = w') by
        refine hx.mono ?_
        rintro e w' ⟨rfl, rfl⟩
        exact ⟨_, by rw [hE], by rw [hE, if_neg (by decide)], Mod.refl _ _⟩
      have e4 : ((n : Int) != (ones s : Int)) = true := by simp; omega
      have e5 : (n != ones s) = true := by simp; omega
      clear hr hc hn hb hE
      go_enter Tryd.func56, Tryd.ntmps56
      go_wp2_with fail
      refine (HO.out _).mono ?_
      rintro e w1 ⟨rfl, rfl⟩
      go_wp2_with fail
      go_ret2
      exact ⟨rfl, rfl⟩
end Go.Proofs.YtbbobpjcbnfpfaaDoor
