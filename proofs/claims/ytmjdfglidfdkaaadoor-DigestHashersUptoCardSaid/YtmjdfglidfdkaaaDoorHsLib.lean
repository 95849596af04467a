/- What DigestHashers lays in memory: four Hashers, and what each has taken. No condition. -/
import Derived.Test.YtmjdfglidfdkaaaDoorLawCuts
import Derived.Test.YtmjdfglidfdkaaaDoorRdN
namespace Go.Proofs.YtmjdfglidfdkaaaDoor
open Go.RowKit
attribute [local go_sem high] one8 st8 cm8 b_and8 b_and8r b_and8l b_or8 b_or8r b_or8l b_xor8 b_xor8r b_xor8l b_andNot8 b_andNot8r b_andNot8l b_add8 b_add8r b_add8l b_sub8 b_sub8r b_sub8l b_mul8 b_mul8r b_mul8l b_eql8 b_eql8r b_eql8l b_neq8 b_neq8r b_neq8l b_lss8 b_lss8r b_lss8l b_leq8 b_leq8r b_leq8l b_gtr8 b_gtr8r b_gtr8l b_geq8 b_geq8r b_geq8l b_quo8r b_rem8r b_shl8r b_shr8r b_shl8l b_shr8l u_xor8 g_eql8 g_neq8 g_eql8' g_neq8' one32 st32 cm32 b_and32 b_and32r b_and32l b_or32 b_or32r b_or32l b_xor32 b_xor32r b_xor32l b_andNot32 b_andNot32r b_andNot32l b_add32 b_add32r b_add32l b_sub32 b_sub32r b_sub32l b_mul32 b_mul32r b_mul32l b_eql32 b_eql32r b_eql32l b_neq32 b_neq32r b_neq32l b_lss32 b_lss32r b_lss32l b_leq32 b_leq32r b_leq32l b_gtr32 b_gtr32r b_gtr32l b_geq32 b_geq32r b_geq32l b_quo32r b_rem32r b_shl32r b_shr32r b_shl32l b_shr32l u_xor32 g_eql32 g_neq32 g_eql32' g_neq32' one64 st64 cm64 b_and64 b_and64r b_and64l b_or64 b_or64r b_or64l b_xor64 b_xor64r b_xor64l b_andNot64 b_andNot64r b_andNot64l b_add64 b_add64r b_add64l b_sub64 b_sub64r b_sub64l b_mul64 b_mul64r b_mul64l b_eql64 b_eql64r b_eql64l b_neq64 b_neq64r b_neq64l b_lss64 b_lss64r b_lss64l b_leq64 b_leq64r b_leq64l b_gtr64 b_gtr64r b_gtr64l b_geq64 b_geq64r b_geq64l b_quo64r b_rem64r b_shl64r b_shr64r b_shl64l b_shr64l u_xor64 g_eql64 g_neq64 g_eql64' g_neq64' c_u8_u8 c_u8_u32 c_u8_u64 c_i_u8 c_u32_u8 c_u32_u32 c_u32_u64 c_i_u32 c_u64_u8 c_u64_u32 c_u64_u64 c_i_u64 c_u8_i c_u32_i
attribute [local go_sem ↓] ce8 ce32 ce64
/-- A call with two arguments as one step of a region that draws its order. -/
theorem step_call2 {P : Program} {ops : Array Oper} {o : Oper} {a : Act} {w : World} {K : Act → World → Prop} {Q : Exit → Act → World → Prop} {E : Prop} (hgd : o.guard = none) (f : FuncId) (x x2 : Operand) (ats : Array TypeId)
    (ho : o.op = .call { callee := .value (.func f), args := #[x, x2], argTypes := ats }) (u u2 : Value) (hv : a.eval x = u) (hv2 : a.eval x2 = u2) (hf : ∀ (xs : Array Value) (w : World), (callFunc f xs).run P w = .ok (.enter f xs) w) {v : Value} {R : World → Prop}
    (hc : Calls P f #[u, u2] w fun e w' => e = .returned v ∧ R w') (h : ∀ w', R w' → K (a.put o.dst v) w') :
    if Region.wanted o (yielded ops a.tmps) = true then Oper.wp P o a w K Q else E := by
  have hw : Region.wanted o (yielded ops a.tmps) = true := by simp [Region.wanted, hgd]
  rw [if_pos hw]
  subst hv hv2
  have hrun : (execOp a.eval o).run P w = .ok (.enter f #[a.eval x, a.eval x2]) w := by
    simp [execOp, ho, resolve, invoke, Act.eval, Deferred.ofValue, hf]
  unfold Oper.wp
  rw [hrun]
  exact hc.mono fun e w' ⟨he, hr⟩ => by subst he; exact h w' hr
theorem callWrite (xs : Array Value) (w : World) : (callFunc 24 xs).run Tryd.prog w = .ok (.enter 24 xs) w := by kernel_rfl
/-- A step of a script. -/
structure OpR where
  kind : Int
  on : Int
  tt : Int
  sl : SlR
def OpR.cells (x : OpR) : List Value := [.int .i64 x.kind, .int .i64 x.on, .int .i64 x.tt, x.sl.v]
theorem OpR.cells_length (x : OpR) : x.cells.length = 4 := rfl
def opsTotal (xs : List OpR) : Nat := total (xs.map (·.sl))
theorem opsTotal_take (xs : List OpR) (k : Nat) : opsTotal (xs.take k) ≤ opsTotal xs := by unfold opsTotal; rw [List.map_take]; exact total_take _ k
theorem opsTotal_succ (xs : List OpR) (k : Nat) (x : OpR) (h : xs[k]? = some x) : opsTotal (xs.take (k + 1)) = opsTotal (xs.take k) + x.sl.d.length := by
  unfold opsTotal; rw [List.map_take, List.map_take]; exact total_take_succ _ k x.sl (by rw [List.getElem?_map, h]; rfl)
theorem written_any (pp : Option Addr) (cp : Nat) (xs : List OpR) (w : World) (hr : RdN 4 OpR.cells w pp cp xs) (ht : opsTotal xs ≤ 1048576) (hl : xs.length < 4611686018427387904) :
    Calls Tryd.prog 27 #[.slice pp xs.length cp] w fun e w' => e = .returned (.bool true) ∧ w' = w := by
  have HR := Lib.hid hr
  clear hr
  go_enter Tryd.func27, Tryd.ntmps27
  go_wp2
  go_loopw [3, 4] (fun n v wr => ∃ k : Nat, k ≤ xs.length ∧ v = .int .i64 k ∧ n = .int .i64 (opsTotal (xs.take k) : Nat) ∧ wr = w) (fun _ v _ => xs.length - (intOf v).toNat)
  case atStart => exact ⟨0, by omega, rfl, rfl, rfl⟩
  case round =>
    obtain ⟨k, hk, rfl, rfl, rfl⟩ := hrel
    have hT := opsTotal_take xs k
    obtain ⟨t, hte⟩ : ∃ t, t = opsTotal (xs.take k) := ⟨_, rfl⟩
    rw [← hte] at hT ⊢
    have HTE := Lib.hid hte
    clear hte
    have htl : t ≤ 1048576 := by omega
    by_cases hlt : k < xs.length
    · obtain ⟨x, hxk⟩ : ∃ x, xs[k]? = some x := ⟨xs[k], List.getElem?_eq_getElem hlt⟩
      obtain ⟨b, o, rfl, hc⟩ := HR.out.elem OpR.cells_length k x hxk
      have hc3 := range_cell hc 3 x.sl.v rfl
      have hsu := Lib.hid (opsTotal_succ xs k x hxk)
      have hxl : x.sl.d.length ≤ opsTotal xs := by
        have h1 := opsTotal_take xs (k + 1)
        rw [hsu.out] at h1
        omega
      unfold SlR.v at hc3
      clear hxk hc
      go_wp2
      go_roundw
      case rel => exact ⟨k + 1, by omega, by go_num, by rw [hsu.out, ← HTE.out]; go_num, by first | rfl | trivial⟩
      case measure => simp [intOf]; omega
    · have hd2 : decide ((t : Int) ≤ 1048576) = true := by simp; omega
      have hd : decide ((k : Int) < (xs.length : Int)) = false := by simp; omega
      go_wp2
      go_ret
      exact ⟨rfl, rfl⟩
/-- y is what a Hasher has taken: nothing, or bytes in a block from base on. -/
def TookAt (w : World) (y : SlR) : Prop := y.d.length ≤ y.cap ∧ (y.d ≠ [] → ∃ g C fr, y.p = some ⟨g, 0, none⟩ ∧ w.heap[g]? = some (.cells C 5 fr) ∧ C.toList.take y.d.length = y.d.map V8)
theorem TookAt.rd {w : World} {y : SlR} (h : TookAt w y) : Rd V8 w y.p y.cap y.d := by
  refine ⟨h.1, fun hne => ?_⟩
  obtain ⟨g, C, fr, h1, h2, h3⟩ := h.2 hne
  refine ⟨g, 0, h1, range_blk h2 0 _ fun j v hj => ?_⟩
  rw [← h3, List.getElem?_take] at hj
  have := hj; simp at this; simpa using this.2
theorem TookAt.mod {S : List Nat} {a w : World} {y : SlR} (h : TookAt a y) (hm : Mod S a w) (hs : ∀ g ∈ S, ∃ C t fr, a.heap[g]? = some (.cells C t fr) ∧ t ≠ 5) : TookAt w y := by
  refine ⟨h.1, fun hne => ?_⟩
  obtain ⟨g, C, fr, h1, h2, h3⟩ := h.2 hne
  refine ⟨g, C, fr, h1, hm.get h2 fun hg => ?_, h3⟩
  obtain ⟨C', t, fr', h4, h5⟩ := hs g hg
  rw [h2] at h4; injection h4 with h4; injection h4 with _ h6 _
  exact h5 h6.symm
theorem TookAt.nil (w : World) : TookAt w nilSl := ⟨Nat.le_refl _, fun h => absurd rfl h⟩
theorem TookAt.of_twin {w : World} {y : SlR} (h : TwinAt w y) : TookAt w y := by
  obtain ⟨h0, g, h1, h2⟩ := h
  exact ⟨by omega, fun _ => ⟨g, _, _, h1, h2, by simp [List.take_of_length_le]⟩⟩
theorem TookAt.of_own {w : World} {B : Nat} {v : Value} {l : List UInt8} (h : Own w B v l) : ∃ y : SlR, v = y.v ∧ y.d = l ∧ TookAt w y := by
  rcases h.2 with ⟨hv, h0⟩ | ⟨g, cap, cur, hv, hB, hg, hn, hm, hs, ht⟩
  · have hl : l = [] := List.eq_nil_of_length_eq_zero h0
    subst hl
    exact ⟨nilSl, hv, rfl, TookAt.nil w⟩
  · exact ⟨⟨some ⟨g, 0, none⟩, cap, l⟩, hv, rfl, hn, fun _ => ⟨g, cur, _, rfl, hg, by simpa using ht⟩⟩
theorem Own.of_twin {w : World} {B : Nat} {y : SlR} (h : TwinAt w y) (hB : ∀ g, y.p = some ⟨g, 0, none⟩ → B ≤ g) (hm : y.d.length ≤ maxLen) : Own w B y.v y.d := by
  obtain ⟨h0, g, h1, h2⟩ := h
  refine ⟨by simp, .inr ⟨g, y.cap, _, by rw [SlR.v, h1], hB g h1, h2, by omega, by omega, by simp [h0], by simp [List.take_of_length_le]⟩⟩
def ptr (g : Nat) : Value := .pointer (some ⟨g, 0, none⟩)
/-- How memory stands: the Hashers hs, what they have taken (ls), what the law holds of that (ts). -/
structure HSt (w wr : World) (H T : Nat) (hs : List Nat) (ls : List (List UInt8)) (ts : List SlR) : Prop where
  hmem : wr.heap[H]? = some (.cells (hs.map ptr).toArray 43 (0, 0))
  tmem : wr.heap[T]? = some (.cells (ts.map SlR.v).toArray 44 (0, 0))
  hl : hs.length = 4
  ll : ls.length = 4
  tl : ts.length = 4
  hash : ∀ (k g : Nat) (l : List UInt8), hs[k]? = some g → ls[k]? = some l → IsHash wr g l
  apart : hs.Nodup
  own : ∀ g ∈ hs, w.heap.size ≤ g
  took : ∀ y ∈ ts, TookAt wr y
  mod : Mod [] w wr
  base : w.heap.size ≤ H ∧ w.heap.size ≤ T
theorem isHash_type {w : World} {g : Nat} {l : List UInt8} (h : IsHash w g l) : ∃ C, w.heap[g]? = some (.cells C 66 (0, 0)) := by
  obtain ⟨wt, _, _, hb⟩ := h
  exact ⟨_, hb⟩
theorem ne_of_type {w : World} {a b : Nat} {C C' : Array Value} {t t' : TypeId} {fr fr' : Nat × Nat} (h : w.heap[a]? = some (.cells C t fr)) (h' : w.heap[b]? = some (.cells C' t' fr')) (ht : t ≠ t') : a ≠ b := by
  rintro rfl
  rw [h] at h'; injection h' with h'; injection h' with _ h5 _
  exact ht h5
namespace HSt
variable {w wr w' : World} {H T : Nat} {hs : List Nat} {ls : List (List UInt8)} {ts : List SlR}
theorem lt (h : HSt w wr H T hs ls ts) : ∀ g ∈ hs, g < wr.heap.size := by
  intro g hg
  obtain ⟨k, hk⟩ := List.mem_iff_getElem?.1 hg
  have hk4 : k < ls.length := by rw [h.ll, ← h.hl]; exact (List.getElem?_eq_some_iff.1 hk).1
  obtain ⟨C, hb⟩ := isHash_type (h.hash k g _ hk (List.getElem?_eq_getElem hk4))
  exact lt_of_block hb
theorem cellH (h : HSt w wr H T hs ls ts) {k g : Nat} (hg : hs[k]? = some g) : wr.cell? ⟨H, k, none⟩ = some (.pointer (some ⟨g, 0, none⟩)) := by
  rw [cell_blk h.hmem, List.getElem?_toArray, List.getElem?_map, hg]; rfl
theorem cellT (h : HSt w wr H T hs ls ts) {k : Nat} {y : SlR} (hy : ts[k]? = some y) : wr.cell? ⟨T, k, none⟩ = some (.slice y.p y.d.length y.cap) := by
  rw [cell_blk h.tmem, List.getElem?_toArray, List.getElem?_map, hy]; rfl
theorem hashAt (h : HSt w wr H T hs (ts.map (·.d)) ts) {k g : Nat} {y : SlR} (hg : hs[k]? = some g) (hy : ts[k]? = some y) : IsHash wr g y.d := h.hash k g y.d hg (by rw [List.getElem?_map, hy]; rfl)
theorem mod0 (h : HSt w wr H T hs ls ts) (hm : Mod [] wr w') : HSt w w' H T hs ls ts :=
  ⟨hm.get0 h.hmem, hm.get0 h.tmem, h.hl, h.ll, h.tl, fun k g l h1 h2 => (h.hash k g l h1 h2).mod hm (by simp), h.apart, h.own, fun y hy => (h.took y hy).mod hm (by simp), h.mod.trans0 hm, h.base⟩
theorem write (h : HSt w wr H T hs ls ts) (k g : Nat) (hk : hs[k]? = some g) (l' : List UInt8) (hm : Mod [g] wr w') (hh : IsHash w' g l') : HSt w w' H T hs (ls.set k l') ts := by
  have hk4 : k < ls.length := by rw [h.ll, ← h.hl]; exact (List.getElem?_eq_some_iff.1 hk).1
  obtain ⟨C, hb⟩ := isHash_type (h.hash k g _ hk (List.getElem?_eq_getElem hk4))
  refine ⟨hm.get h.hmem ?_, hm.get h.tmem ?_, h.hl, by rw [List.length_set]; exact h.ll, h.tl, ?_, h.apart, h.own, fun y hy => (h.took y hy).mod hm ?_, h.mod.trans hm ?_, h.base⟩
  · rw [List.mem_singleton]; exact ne_of_type h.hmem hb (by decide)
  · rw [List.mem_singleton]; exact ne_of_type h.tmem hb (by decide)
  · intro j g2 l h1 h2
    rw [List.getElem?_set] at h2
    split at h2
    · rename_i hkj
      subst hkj
      rw [hk] at h1; injection h1 with h1; subst h1
      injection h2 with h2; subst h2
      exact hh
    · rename_i hkj
      refine (h.hash j g2 l h1 h2).mod hm ?_
      rw [List.mem_singleton]
      rintro rfl
      obtain ⟨e1, e2⟩ := List.getElem?_eq_some_iff.1 h1
      obtain ⟨e3, e4⟩ := List.getElem?_eq_some_iff.1 hk
      exact hkj ((List.getElem_inj h.apart).1 (e4.trans e2.symm))
  · intro x hx
    rw [List.mem_singleton] at hx; subst hx
    exact ⟨C, _, _, hb, by decide⟩
  · intro x hx
    rw [List.mem_singleton] at hx; subst hx
    exact .inr (h.own _ (List.mem_of_getElem? hk))
theorem setT (h : HSt w wr H T hs ls ts) (k : Nat) (y : SlR) (hy : TookAt wr y) : HSt w (wr.setCell ⟨T, k, none⟩ y.v) H T hs ls (ts.set k y) := by
  have hm : Mod [T] wr (wr.setCell ⟨T, k, none⟩ y.v) := (Mod.refl [T] wr).setCell (.inl (by simp)) _
  have hn : ∀ x ∈ [T], ∃ C t fr, wr.heap[x]? = some (.cells C t fr) ∧ t ≠ 5 := by
    intro x hx
    rw [List.mem_singleton] at hx; subst hx
    exact ⟨_, _, _, h.tmem, by decide⟩
  refine ⟨hm.get h.hmem (by rw [List.mem_singleton]; exact ne_of_type h.hmem h.tmem (by decide)), ?_, h.hl, h.ll, by rw [List.length_set]; exact h.tl, ?_, h.apart, h.own, ?_, h.mod.setCell (.inr h.base.2) _, h.base⟩
  · have := hp_sc (j := k) (v := y.v) h.tmem
    rw [List.setIfInBounds_toArray, ← List.map_set] at this
    exact this
  · intro j g l h1 h2
    obtain ⟨C, hb⟩ := isHash_type (h.hash j g l h1 h2)
    exact (h.hash j g l h1 h2).mod hm (by rw [List.mem_singleton]; exact ne_of_type hb h.tmem (by decide))
  · intro z hz
    rcases List.mem_or_eq_of_mem_set hz with hz | rfl
    · exact (h.took z hz).mod hm hn
    · exact hy.mod hm hn
theorem setH (h : HSt w wr H T hs ls ts) (k g : Nat) (l : List UInt8) (hg : IsHash wr g l) (hn : g ∉ hs) (hw : w.heap.size ≤ g) : HSt w (wr.setCell ⟨H, k, none⟩ (ptr g)) H T (hs.set k g) (ls.set k l) ts := by
  have hm : Mod [H] wr (wr.setCell ⟨H, k, none⟩ (ptr g)) := (Mod.refl [H] wr).setCell (.inl (by simp)) _
  have hnt : ∀ x ∈ [H], ∃ C t fr, wr.heap[x]? = some (.cells C t fr) ∧ t ≠ 5 := by
    intro x hx
    rw [List.mem_singleton] at hx; subst hx
    exact ⟨_, _, _, h.hmem, by decide⟩
  have hk : ∀ g2 l2, IsHash wr g2 l2 → IsHash (wr.setCell ⟨H, k, none⟩ (ptr g)) g2 l2 := by
    intro g2 l2 h1
    obtain ⟨C, hb⟩ := isHash_type h1
    exact h1.mod hm (by rw [List.mem_singleton]; exact ne_of_type hb h.hmem (by decide))
  refine ⟨?_, hm.get h.tmem (by rw [List.mem_singleton]; exact ne_of_type h.tmem h.hmem (by decide)), by rw [List.length_set]; exact h.hl, by rw [List.length_set]; exact h.ll, h.tl, ?_, ?_, ?_, fun y hy => (h.took y hy).mod hm hnt, h.mod.setCell (.inr h.base.1) _, h.base⟩
  · have := hp_sc (j := k) (v := ptr g) h.hmem
    rw [List.setIfInBounds_toArray, ← List.map_set] at this
    exact this
  · intro j g2 l2 h1 h2
    rw [List.getElem?_set] at h1 h2
    split at h1
    · rename_i hkj
      rw [if_pos hkj] at h2
      split at h1
      · injection h1 with h1; subst h1
        split at h2
        · injection h2 with h2; subst h2; exact hk _ _ hg
        · cases h2
      · cases h1
    · rename_i hkj
      rw [if_neg hkj] at h2
      exact hk _ _ (h.hash j g2 l2 h1 h2)
  · refine List.pairwise_iff_getElem.2 fun i j hi hj hij => ?_
    rw [List.length_set] at hi hj
    rw [List.getElem_set, List.getElem_set]
    have hp := List.pairwise_iff_getElem.1 h.apart i j hi hj hij
    split
    · split
      · omega
      · intro e
        exact hn (e ▸ List.getElem_mem hj)
    · split
      · intro e
        exact hn (e ▸ List.getElem_mem hi)
      · exact hp
  · intro x hx
    rcases List.mem_or_eq_of_mem_set hx with hx | rfl
    · exact h.own x hx
    · exact hw
end HSt
end Go.Proofs.YtmjdfglidfdkaaaDoor
