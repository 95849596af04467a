/- TreeProves. Conditions: the tables lie in their variables; at most 2^20 bytes and leaves. -/
import Derived.Test.YtbbobpjcbnfpfaaDoorTrLogA
import Derived.Test.YtbbobpjcbnfpfaaDoorTrAwake
import Derived.Test.YtbbobpjcbnfpfaaDoorTrGrew
import Derived.Test.YtbbobpjcbnfpfaaDoorTrOf32
namespace Go.Proofs.YtbbobpjcbnfpfaaDoor
open Go.RowKit
attribute [local go_sem high] one8 st8 cm8 b_and8 b_and8r b_and8l b_or8 b_or8r b_or8l b_xor8 b_xor8r b_xor8l b_andNot8 b_andNot8r b_andNot8l b_add8 b_add8r b_add8l b_sub8 b_sub8r b_sub8l b_mul8 b_mul8r b_mul8l b_eql8 b_eql8r b_eql8l b_neq8 b_neq8r b_neq8l b_lss8 b_lss8r b_lss8l b_leq8 b_leq8r b_leq8l b_gtr8 b_gtr8r b_gtr8l b_geq8 b_geq8r b_geq8l b_quo8r b_rem8r b_shl8r b_shr8r b_shl8l b_shr8l u_xor8 g_eql8 g_neq8 g_eql8' g_neq8' one32 st32 cm32 b_and32 b_and32r b_and32l b_or32 b_or32r b_or32l b_xor32 b_xor32r b_xor32l b_andNot32 b_andNot32r b_andNot32l b_add32 b_add32r b_add32l b_sub32 b_sub32r b_sub32l b_mul32 b_mul32r b_mul32l b_eql32 b_eql32r b_eql32l b_neq32 b_neq32r b_neq32l b_lss32 b_lss32r b_lss32l b_leq32 b_leq32r b_leq32l b_gtr32 b_gtr32r b_gtr32l b_geq32 b_geq32r b_geq32l b_quo32r b_rem32r b_shl32r b_shr32r b_shl32l b_shr32l u_xor32 g_eql32 g_neq32 g_eql32' g_neq32' one64 st64 cm64 b_and64 b_and64r b_and64l b_or64 b_or64r b_or64l b_xor64 b_xor64r b_xor64l b_andNot64 b_andNot64r b_andNot64l b_add64 b_add64r b_add64l b_sub64 b_sub64r b_sub64l b_mul64 b_mul64r b_mul64l b_eql64 b_eql64r b_eql64l b_neq64 b_neq64r b_neq64l b_lss64 b_lss64r b_lss64l b_leq64 b_leq64r b_leq64l b_gtr64 b_gtr64r b_gtr64l b_geq64 b_geq64r b_geq64l b_quo64r b_rem64r b_shl64r b_shr64r b_shl64l b_shr64l u_xor64 g_eql64 g_neq64 g_eql64' g_neq64' c_u8_u8 c_u8_u32 c_u8_u64 c_i_u8 c_u32_u8 c_u32_u32 c_u32_u64 c_i_u32 c_u64_u8 c_u64_u32 c_u64_u64 c_i_u64 c_u8_i c_u32_i
attribute [local go_sem ↓] ce8 ce32 ce64
attribute [local go_sem ↓] sliced_slp loadO26 storeO26 buildO24 buildSlO42
theorem pick_any (c n : Int) (w : World) (h0 : -9223372036854775808 ≤ c) (h1 : c ≤ 9223372036854775807) (hn : 0 < n) (hn1 : n ≤ 9223372036854775807) :
    Calls Tryd.prog 48 #[.int .i64 c, .int .i64 n] w fun e w' => ∃ r : Nat, (r : Int) < n ∧ e = .returned (.int .i64 r) ∧ w' = w := by
  obtain ⟨k, rfl⟩ := Int.eq_ofNat_of_zero_le (show 0 ≤ n by omega)
  by_cases hc : c < 0
  · have h2 : 0 ≤ -(c + 1) := by omega
    obtain ⟨m, hm⟩ := Int.eq_ofNat_of_zero_le h2
    have hm1 : (m : Int) ≤ 9223372036854775807 := by omega
    have hmk : m % k < k := Nat.mod_lt _ (by omega)
    go_enter Tryd.func48, Tryd.ntmps48
    go_wp2_with fail
    go_ret
    exact ⟨m % k, by omega, by simp, rfl⟩
  · obtain ⟨m, rfl⟩ := Int.eq_ofNat_of_zero_le (show 0 ≤ c by omega)
    have hmk : m % k < k := Nat.mod_lt _ (by omega)
    go_enter Tryd.func48, Tryd.ntmps48
    go_wp2_with fail
    go_ret
    exact ⟨m % k, by omega, by simp, rfl⟩
theorem some260_any (p : Option Addr) (n c : Nat) (hnc : n ≤ c) (hn : n ≤ 1048576) (w : World) :
    Calls Tryd.prog 18 #[.slice p n c, .int .i64 260] w fun e w' => e = .returned (.slice p (min n 260) c) ∧ w = w' := by
  by_cases h : n ≤ 260
  · have f1 : ¬ (260 : Int) < (n : Int) := by omega
    have e : min n 260 = n := by omega
    rw [e]
    clear e
    go_enter Tryd.func18, Tryd.ntmps18
    go_wp2_with fail
    go_ret
    exact ⟨rfl, rfl⟩
  · have f1 : (260 : Int) < (n : Int) := by omega
    have f2 : (260 : Int) ≤ (c : Int) := by omega
    have e : min n 260 = 260 := by omega
    rw [e]
    clear e h
    go_enter Tryd.func18, Tryd.ntmps18
    go_wp2_with fail
    go_ret
    exact ⟨rfl, rfl⟩
theorem total_mem (xs : List SlR) (x : SlR) (h : x ∈ xs) : x.d.length ≤ total xs := by
  unfold total
  induction xs with
  | nil => cases h
  | cons y ys ih =>
    rw [List.map_cons, List.sum_cons]
    rcases List.mem_cons.1 h with rfl | h
    · omega
    · have := ih h
      omega
/-- Two logs and a list of digests, apart. -/
structure Tri (w : World) (B gt st : Nat) (vt : Value) (ft : List Bs) (gu su : Nat) (vu : Value) (fu : List Bs) (vr : Value) (rs : List Bs) : Prop where
  t : IsLog w B gt st vt ft
  u : IsLog w B gu su vu fu
  r : OwnD w B vr rs
  g : gt ≠ gu
  tu : ∀ z, vt.ownBlock = some z → vu.ownBlock ≠ some z
  tr : ∀ z, vt.ownBlock = some z → vr.ownBlock ≠ some z
  ur : ∀ z, vu.ownBlock = some z → vr.ownBlock ≠ some z
theorem mem_foot {g x : Nat} {v : Value} (h : x ∈ g :: v.ownBlock.toList) : x = g ∨ v.ownBlock = some x := by
  rcases List.mem_cons.1 h with h | h
  · exact .inl h
  · refine .inr ?_
    cases hv : v.ownBlock with
    | none => rw [hv] at h; simp at h
    | some z => rw [hv] at h; simp at h; rw [h]
/-- What was there is not what is new. -/
theorem fresh_ne {w : World} {v' v u : Value} (h : v'.ownBlock = v.ownBlock ∨ ∃ b, v'.ownBlock = some b ∧ w.heap.size ≤ b) (hd : ∀ z, v.ownBlock = some z → u.ownBlock ≠ some z) (hu : ∀ z, u.ownBlock = some z → z < w.heap.size) : ∀ z, v'.ownBlock = some z → u.ownBlock ≠ some z := by
  intro z hz hz2
  rcases h with h | ⟨b, hb, hb2⟩
  · exact hd z (h ▸ hz) hz2
  · rw [hb] at hz
    injection hz with hz
    have := hu z hz2
    omega
namespace Tri
variable {a w w' : World} {B gt st gu su : Nat} {vt vu vr : Value} {ft fu rs : List Bs}
theorem mod0 (h : Tri a B gt st vt ft gu su vu fu vr rs) (m : Mod [] a w) : Tri w B gt st vt ft gu su vu fu vr rs := ⟨h.t.mod0 m, h.u.mod0 m, h.r.mod0 m, h.g, h.tu, h.tr, h.ur⟩
theorem swap (h : Tri w B gt st vt ft gu su vu fu vr rs) : Tri w B gu su vu fu gt st vt ft vr rs := ⟨h.u, h.t, h.r, h.g.symm, fun z h1 h2 => h.tu z h2 h1, h.ur, h.tr⟩
theorem list_ne {g : Nat} {v : Value} {l : List Bs} {s : Nat} {v2 : Value} {l2 : List Bs} (h : OwnD w B v l) (h2 : IsLog w B g s v2 l2) : v.ownBlock ≠ some g := own_ne h h2.blk
theorem addT {s' : Nat} {f' : List Bs} (h : Tri w B gt st vt ft gu su vu fu vr rs) (k : Added w B gt s' vt f' w') : ∃ vt', Tri w' B gt s' vt' f' gu su vu fu vr rs := by
  obtain ⟨vt', hl, ho⟩ := k.log
  refine ⟨vt', hl, h.u.mod k.mod (fun hx => ?_) (fun x hx => ?_), h.r.mod k.mod (fun x hx => ?_), h.g, fresh_ne ho h.tu h.u.own.lt, fresh_ne ho h.tr h.r.lt, h.ur⟩
  · rcases mem_foot hx with hx | hx
    · exact h.g hx.symm
    · exact list_ne h.t.own h.u hx
  · rcases mem_foot hx with rfl | hx
    · exact list_ne h.u.own h.t
    · exact h.tu x hx
  · rcases mem_foot hx with rfl | hx
    · exact list_ne h.r h.t
    · exact h.tr x hx
theorem newU {s' : Nat} {f' : List Bs} {v : Value} (h : Tri w B gt st vt ft gu su vu fu vr rs) (hB : B ≤ w.heap.size) (k : LogPost s' f' w v w') : ∃ gu' vu', v = .pointer (some ⟨gu', 0, none⟩) ∧ Tri w' B gt st vt ft gu' s' vu' f' vr rs := by
  obtain ⟨g', u', rfl, hl, m⟩ := k
  refine ⟨g', u', rfl, h.t.mod0 m, ⟨hl.blk, Nat.le_trans hB hl.base, hl.own.mono hB, hl.a32, hl.cnt, hl.sz⟩, h.r.mod0 m, ?_, fun z h1 h2 => ?_, h.tr, fun z h1 h2 => ?_⟩
  · have h1 := h.t.lt
    have h2 := hl.base
    omega
  · have h3 := h.t.own.lt z h1
    have h4 := hl.own.row z h2
    omega
  · have h3 := h.r.lt z h2
    have h4 := hl.own.row z h1
    omega
theorem push {v' : Value} {rs' : List Bs} (h : Tri w B gt st vt ft gu su vu fu vr rs) (ho : OwnD w' B v' rs') (hg : w.grownBy w' vr.ownBlock) (hb : v'.ownBlock = vr.ownBlock ∨ v'.ownBlock = some w.heap.size) : Tri w' B gt st vt ft gu su vu fu v' rs' := by
  have m : Mod vr.ownBlock.toList w w' := (Mod.refl _ w).of_grown hg (fun g hg => .inl (by rw [hg]; simp))
  have hm : ∀ x ∈ vr.ownBlock.toList, vr.ownBlock = some x := fun x hx => by
    cases hv : vr.ownBlock with
    | none => rw [hv] at hx; simp at hx
    | some z => rw [hv] at hx; simp at hx; rw [hx]
  have hb' : v'.ownBlock = vr.ownBlock ∨ ∃ b, v'.ownBlock = some b ∧ w.heap.size ≤ b := hb.imp id (fun h => ⟨_, h, Nat.le_refl _⟩)
  refine ⟨h.t.mod m (fun hx => list_ne h.r h.t (hm _ hx)) (fun x hx h1 => h.tr x h1 (hm x hx)), h.u.mod m (fun hx => list_ne h.r h.u (hm _ hx)) (fun x hx h1 => h.ur x h1 (hm x hx)), ho, h.g, h.tu, fun z h1 h2 => fresh_ne hb' (fun z h3 h4 => h.tr z h4 h3) h.t.own.lt z h2 h1, fun z h1 h2 => fresh_ne hb' (fun z h3 h4 => h.ur z h4 h3) h.u.own.lt z h2 h1⟩
end Tri
/-- The roots of the first leaves: none, one .. -/
def rts (hf : Bs → Bs) (L : List Bs) (k : Nat) : List Bs := (List.range k).map fun j => rootH hf (L.take j)
theorem rts_len (hf : Bs → Bs) (L : List Bs) (k : Nat) : (rts hf L k).length = k := by simp [rts]
theorem rts_succ (hf : Bs → Bs) (L : List Bs) (k : Nat) : rts hf L (k + 1) = rts hf L k ++ [rootH hf (L.take k)] := by simp [rts, List.range_succ]
theorem rts_get (hf : Bs → Bs) (L : List Bs) (k j : Nat) (h : j < k) : (rts hf L k)[j]? = some (rootH hf (L.take j)) := by simp [rts, h]
theorem frontH_nil (hf : Bs → Bs) : frontH hf [] = [] := by unfold frontH; rw [rf]; rfl
theorem front_take {hf : Bs → Bs} (L : List Bs) (i : Nat) (x : Bs) (hx : L[i]? = some x) : addF hf i (frontH hf (L.take i)) (leafH hf x) = frontH hf (L.take (i + 1)) := by
  have hi : i < L.length := (List.getElem?_eq_some_iff.1 hx).1
  have h := addF_front (hf := hf) (L.take i) x
  rw [List.length_take_of_le (by omega)] at h
  rw [h, List.take_add_one, hx]
  rfl
/-- How many leaves the second log has. -/
def ki (m i : Nat) : Nat := if i ≤ m then 0 else i
/-- A growth from an earlier size is taken. -/
theorem grew_ok {hf : Bs → Bs} (L : List Bs) (m : Nat) (hm : m ≤ L.length) (hl : L.length ≤ 1048576) : grewE hf (rootH hf (L.take m)) m (rootH hf L) L.length (growOf hf L m) = 0 := by
  by_cases h0 : m = 0
  · subst h0
    have hr : rootH hf [] = hf [] := by rw [rootH.eq_def]; rfl
    have hp : growOf hf L ((0 : Nat) : Int) = [] := by unfold growOf; rw [if_pos (by omega)]
    unfold grewE
    rw [if_neg (by omega), if_pos (by omega), List.take_zero, hr, hp, if_neg]
    rintro (h | h | ⟨h1, h2⟩)
    · exact h rfl
    · exact h rfl
    · have : L = [] := List.eq_nil_of_length_eq_zero (by omega)
      subst this
      exact h2 hr
  · obtain ⟨e1, e2, e3⟩ := grow_true (hf := hf) L.length L m true (rootH hf (L.take m)) rfl (by omega) hm (fun _ => rfl)
    have hp : growOf hf L (m : Int) = growH hf L m true := by unfold growOf; rw [if_neg (by omega), Int.toNat_natCast]
    unfold grewE
    rw [if_neg (by omega), if_neg (by omega), Int.toNat_natCast, Int.toNat_natCast, hp, grownH_eq, if_pos e1, e2, e3, if_pos rfl]
/-- A leaf's path is taken. -/
theorem check_ok {hf : Bs → Bs} (L : List Bs) (i : Nat) (x : Bs) (hx : L[i]? = some x) (hl : L.length ≤ 1048576) : checkE hf (rootH hf L) L.length i x (pathOf hf L i) = 0 := by
  have hi : i < L.length := (List.getElem?_eq_some_iff.1 hx).1
  obtain ⟨e1, e2⟩ := path_true (hf := hf) L.length L i rfl hi
  rw [hx, Option.getD_some] at e2
  have hp : pathOf hf L (i : Int) = pathH hf L i := by unfold pathOf; rw [if_neg (by omega), Int.toNat_natCast]
  unfold checkE
  rw [if_neg (by omega), if_neg (by omega), Int.toNat_natCast, Int.toNat_natCast, hp, shownH_eq, if_pos e1, e2, if_pos rfl]
set_option maxRecDepth 100000 in
set_option maxHeartbeats 4000000 in
theorem proves_law {hf : Bs → Bs} (pp : Option Addr) (cp : Nat) (xs0 : List SlR) (from' at' : Int) (w : World) (hr : Rd SlR.v w pp cp xs0) (hx : ∀ x ∈ xs0, Rd V8 w x.p x.cap x.d) (ht : total xs0 ≤ 1048576) (hl : xs0.length ≤ 1048576) (hf1 : -9223372036854775808 ≤ from' ∧ from' ≤ 9223372036854775807) (ha1 : -9223372036854775808 ≤ at' ∧ at' ≤ 9223372036854775807) (H : Hs hf w) (T : TabZ w) :
    Calls Tryd.prog 12 #[.slice pp xs0.length cp, .int .i64 from', .int .i64 at'] w fun e w' => e = .returned (.bool true) ∧ Mod [] w w' := by
  have HH := Lib.hid H
  have HT' := Lib.hid T
  have hI0 : Lv w pp cp xs0 := ⟨hr, hx, fun x hx => by have := total_mem xs0 x hx; omega, by omega⟩
  have hcap := hr.le
  obtain ⟨xs, hxs⟩ : ∃ xs, xs = xs0.take 260 := ⟨_, rfl⟩
  have HI := Lib.hid (show Lv w pp cp xs by rw [hxs]; exact hI0.take 260)
  obtain ⟨n, hn⟩ : ∃ n, n = xs.length := ⟨_, rfl⟩
  have hn260 : n ≤ 260 := by rw [hn, hxs]; simp; omega
  have hmin : min xs0.length 260 = n := by rw [hn, hxs]; simp; omega
  have hnc : n ≤ cp := by omega
  have HN := Lib.hid hn
  have HS := Lib.hid (fun W => some260_any pp xs0.length cp hcap hl W)
  rw [hmin] at HS
  obtain ⟨n0, hn0⟩ : ∃ n0, n0 = xs0.length := ⟨_, rfl⟩
  rw [← hn0] at HS hl ⊢
  have HP := Lib.hid (fun W => pick_any from' ((n : Int) + 1) W hf1.1 hf1.2 (by omega) (by omega))
  have HQ := Lib.hid (fun W (h : 0 < n) => pick_any at' (n : Int) W ha1.1 ha1.2 (by omega) (by omega))
  obtain ⟨L, hL⟩ : ∃ L, L = ds xs := ⟨_, rfl⟩
  have HL := Lib.hid hL
  have HLN := Lib.hid (show L.length = n by rw [hL, hn]; simp [ds])
  have HAW := Lib.hid (awake_any w H)
  have h40 : ∀ x ∈ xs, x.d.length ≤ 4398046511104 := (HI.out).small
  have H40 := Lib.hid h40
  clear H T hr hx ht hI0 hcap hxs hn hmin hn0 hL h40 hf1 ha1
  go_enter Tryd.func12, Tryd.ntmps12
  go_wp2_with fail
  refine HAW.out.mono ?_
  rintro e w1 ⟨rfl, m1⟩
  have M1 := Lib.hid m1
  clear m1
  go_wp2_with fail
  refine (HS.out _).mono ?_
  rintro e w2 ⟨rfl, rfl⟩
  go_wp2_with fail
  refine (new_log _).mono ?_
  rintro e w3 ⟨_, rfl, gt, vt, rfl, hlt, m3⟩
  have M3 := Lib.hid (M1.out.trans0 m3)
  have HT3 := Lib.hid (show IsLog w3 w.heap.size gt 0 vt [] from ⟨hlt.blk, Nat.le_trans M1.out.size hlt.base, hlt.own.mono M1.out.size, hlt.a32, hlt.cnt, hlt.sz⟩)
  clear hlt m3
  go_wp2_with fail
  refine (lroot_any w.heap.size gt 0 vt [] w3 HT3.out (HH.out.mod0 M3.out)).mono ?_
  rintro e w4 ⟨rfl, m4⟩
  have HT4 := Lib.hid (show gt < w4.heap.size from (HT3.out.mod0 m4).lt)
  have hlen := logRoot_len (hf := hf) HH.out.len (front := []) (fun x hx => by simp at hx)
  have hR0 : logRoot hf [] = rootH hf (L.take 0) := by rw [← frontH_nil hf, logRoot_front, List.take_zero]
  rw [hR0] at hlen ⊢
  obtain ⟨r0, hr0⟩ : ∃ r0, r0 = rootH hf (L.take 0) := ⟨_, rfl⟩
  rw [← hr0] at hlen ⊢
  have HR0 := Lib.hid hr0
  have hS := storeNewD w4 r0 hlen
  have hL4 := loadDv (w := w4.alloc (.cells (r0.map V8).toArray 24)) r0 hlen (hp_new w4 _ _ rfl)
  have hB4 := run_buildD (w4.alloc (.cells (r0.map V8).toArray 24)) r0 hlen
  have M5 := Lib.hid (((M3.out.trans0 m4).alloc (.cells (r0.map V8).toArray 24)).alloc (.cells (dgc r0).toArray 24))
  have HT5 := Lib.hid (HT3.out.mod0 ((m4.alloc (.cells (r0.map V8).toArray 24)).alloc (.cells (dgc r0).toArray 24)))
  have hBw4 : w.heap.size ≤ w4.heap.size := (M3.out.trans0 m4).size
  have hvt4 : ∀ z, vt.ownBlock = some z → z < w4.heap.size := (HT3.out.mod0 m4).own.lt
  have hBw4 : w.heap.size ≤ w4.heap.size := (M3.out.trans0 m4).size
  have hvt4 : ∀ z, vt.ownBlock = some z → z < w4.heap.size := (HT3.out.mod0 m4).own.lt
  have hBw4 : w.heap.size ≤ w4.heap.size := (M3.out.trans0 m4).size
  have hvt4 : ∀ z, vt.ownBlock = some z → z < w4.heap.size := (HT3.out.mod0 m4).own.lt
  have hBw4 : w.heap.size ≤ w4.heap.size := (M3.out.trans0 m4).size
  have hvt4 : ∀ z, vt.ownBlock = some z → z < w4.heap.size := (HT3.out.mod0 m4).own.lt
  have hBw4 : w.heap.size ≤ w4.heap.size := (M3.out.trans0 m4).size
  have hvt4 : ∀ z, vt.ownBlock = some z → z < w4.heap.size := (HT3.out.mod0 m4).own.lt
  have hBw4 : w.heap.size ≤ w4.heap.size := (M3.out.trans0 m4).size
  have hvt4 : ∀ z, vt.ownBlock = some z → z < w4.heap.size := (HT3.out.mod0 m4).own.lt
  have hBw4 : w.heap.size ≤ w4.heap.size := (M3.out.trans0 m4).size
  have hvt4 : ∀ z, vt.ownBlock = some z → z < w4.heap.size := (HT3.out.mod0 m4).own.lt
  clear m4 hr0 hR0
  go_wp2_with fail
  refine (HP.out _).mono ?_
  rintro e w6 ⟨m, hm, rfl, rfl⟩
  have hmn : m ≤ n := by omega
  go_wp2_with fail
  refine (new_log _).mono ?_
  rintro e w7 ⟨_, rfl, gu0, vu0, rfl, hlu, m7⟩
  have HR6 := Lib.hid (m7.get0 (hp_new (w4.alloc (.cells (r0.map V8).toArray 24)) (.cells (dgc r0).toArray 24) (w4.heap.size + 1) (by simp)))
  have M7 := Lib.hid (M5.out.trans0 m7)
  have hgu : w4.heap.size + 2 ≤ gu0 := by have h := hlu.base; simpa using h
  have hvu : ∀ z, vu0.ownBlock = some z → w4.heap.size + 2 ≤ z := fun z hz => by have h := hlu.own.row z hz; simpa using h
  have HTR0 := Lib.hid (show Tri w7 w.heap.size gt 0 vt [] gu0 0 vu0 [] (.slice (some ⟨w4.heap.size + 1, 0, none⟩) 1 1) [r0] from
    ⟨HT5.out.mod0 m7, ⟨hlu.blk, by omega, hlu.own.mono M5.out.size, hlu.a32, hlu.cnt, hlu.sz⟩, OwnD.one _ _ HR6.out (by omega),
      (by have h1 := HT3.out.lt; have h2 := hBw4; intro h; have := HT4.out; omega), (fun z h1 h2 => by have := hvt4 z h1; have := hvu z h2; omega), (fun z h1 h2 => by have := hvt4 z h1; injection h2 with h2; simp at h2; omega), (fun z h1 h2 => by have := hvu z h1; injection h2 with h2; simp at h2; omega)⟩)
  clear hS hL4 hB4 hlu m7 hgu hvu M5 HT5 HR6 hBw4 hvt4
  go_wp2_with fail
  have HRR0 := Lib.hid (show [r0] = rts hf L (0 + 1) from by rw [HR0.out]; rfl)
  go_loopw [11, 13, 14] (fun rv uv iv wr => ∃ (i gu : Nat) (vt vu : Value), i ≤ n ∧ iv = .int .i64 i ∧ uv = .pointer (some ⟨gu, 0, none⟩) ∧ Tri wr w.heap.size gt i vt (frontH hf (L.take i)) gu (ki m i) vu (frontH hf (L.take (ki m i))) rv (rts hf L (i + 1)) ∧ Mod [] w wr) (fun _ _ iv _ => n - (intOf iv).toNat)
  case atStart =>
    refine ⟨0, gu0, vt, vu0, by omega, rfl, rfl, ?_, M7.out⟩
    rw [show ki m 0 = 0 from if_pos (by omega), List.take_zero, frontH_nil, ← HRR0.out]
    exact HTR0.out
  case round =>
    clear HTR0 M7 HRR0 hlen
    obtain ⟨i, gu, vt, vu, hi, rfl, rfl, htr, hmm⟩ := hrel
    obtain ⟨pr, cr, hvr, _, _⟩ := htr.r.rd
    rw [rts_len] at hvr
    subst hvr
    have HT := Lib.hid htr
    have HM := Lib.hid hmm
    clear htr hmm
    by_cases hlt : i < n
    · obtain ⟨x, hxi⟩ : ∃ x, xs[i]? = some x := ⟨xs[i]'(by have := HN.out; omega), List.getElem?_eq_getElem _⟩
      have hxm := List.mem_of_getElem? hxi
      have HXR := Lib.hid (HI.out.each x hxm)
      have HXS := Lib.hid (HI.out.small x hxm)
      have HLI := Lib.hid (show L[i]? = some x.d by rw [HL.out]; simp [ds, hxi])
      obtain ⟨b, o, rfl, hxc0⟩ := HI.out.cell i x hxi
      have HXC := Lib.hid (fun (W : World) (k : Mod [] w W) => cell_mod0 k hxc0)
      unfold SlR.v at HXC
      clear hxi hxm hxc0
      have f1 : (0 : Int) ≤ (i : Int) := by omega
      have f2 : (i : Int) < (n : Int) := by omega
      have f3 : (i : Int) + 1 ≤ (cp : Int) := by omega
      have f4 : ((i + 1 : Nat) : Int) ≤ (cp : Int) := by omega
      by_cases h1 : i < m
      · have e1 : ((i : Int) == (m : Int)) = false := by simp; omega
        have e2 : decide ((i : Int) = (m : Int)) = false := by simp; omega
        have e3 : decide ((m : Int) ≤ (i : Int)) = false := by simp; omega
        have e4 : (i == m) = false := by simp; omega
        have hxc := HXC.out _ HM.out
        go_wp2_with fail
        refine (add_any w.heap.size gt i vt _ x.p _ x.cap x.d _ HT.out.t (by omega) rfl ((HXR.out).mod0 HM.out) HXS.out (HH.out.mod0 HM.out) (HT'.out.mod0 HM.out)).mono ?_
        rintro e wA ⟨rfl, hA⟩
        rw [front_take L i x.d HLI.out] at hA
        obtain ⟨vt', hTA⟩ := HT.out.addT hA
        have HTA := Lib.hid hTA
        have MA := Lib.hid (HM.out.trans hA.mod (fun y hy => by
          rcases mem_foot hy with rfl | hy
          · exact .inr HT.out.t.base
          · exact .inr (HT.out.t.own.row y hy)))
        clear hA hTA
        go_wp2_with fail
        refine (lroot_any w.heap.size gt (i + 1) vt' _ wA HTA.out.t (HH.out.mod0 MA.out)).mono ?_
        rintro e wB ⟨rfl, mB⟩
        rw [logRoot_front]
        have hR32 : (rootH hf (L.take (i + 1))).length = 32 := rootH_len HH.out.len _
        have HRO := Lib.hid (fun (W : World) (k : Mod [] w W) => show Calls Tryd.prog 20 #[.slice (some ⟨b, o, none⟩) (i + 1 : Nat) cp] W fun e w' => e = .returned (dv (rootH hf (L.take (i + 1)))) ∧ Mod [] W w' by
          have h := root_any (hf := hf) (i + 1) (xs.take (i + 1)) (some ⟨b, o, none⟩) cp (i + 1) W (by rw [List.length_take, ← HN.out]; omega) (Nat.le_refl _) ((HI.out.mod0 k).take (i + 1)) (HH.out.mod0 k)
          rw [show ds (xs.take (i + 1)) = L.take (i + 1) by rw [HL.out]; simp [ds]] at h
          exact h)
        obtain ⟨R, hR⟩ : ∃ R, R = rootH hf (L.take (i + 1)) := ⟨_, rfl⟩
        rw [← hR] at hR32 HRO ⊢
        have HR := Lib.hid hR
        have HR32 := Lib.hid hR32
        have hS := storeNewD wB R hR32
        have HB18 := Lib.hid (hp_new wB (.cells (R.map V8).toArray 24) _ rfl)
        have MB := Lib.hid ((MA.out.trans0 mB).alloc (.cells (R.map V8).toArray 24))
        have HTB := Lib.hid (HTA.out.mod0 (mB.alloc (.cells (R.map V8).toArray 24)))
        obtain ⟨b18, hb18⟩ : ∃ b18, b18 = wB.heap.size := ⟨_, rfl⟩
        have HBT := Lib.hid (show (∀ z, (Value.slice pr (i + 1) cr).ownBlock = some z → z < b18) ∧ (∀ z, vu.ownBlock = some z → z < b18) ∧ gu < b18 ∧ w.heap.size ≤ b18 from by
          rw [hb18]
          have k := mB
          exact ⟨(HTA.out.mod0 k).r.lt, (HTA.out.mod0 k).u.own.lt, (HTA.out.mod0 k).u.lt, (MA.out.trans0 mB).size⟩)
        clear mB hR hR32 HTA MA
        go_wp2_with fail
        refine (HRO.out _ MB.out).mono ?_
        rintro e wC ⟨rfl, mC⟩
        rw [← hb18] at HB18 ⊢
        clear hS hb18
        have hS := storeNewD wC R HR32.out
        have HC18 := Lib.hid (hp_old (o := .cells (R.map V8).toArray 24) (mC.get0 HB18.out))
        have HTC := Lib.hid (HTB.out.mod0 (mC.alloc (.cells (R.map V8).toArray 24)))
        have MC := Lib.hid ((MB.out.trans0 mC).alloc (.cells (R.map V8).toArray 24))
        have hL18 := loadDv R HR32.out HC18.out
        have hL19 := loadDv R HR32.out (hp_new wC (.cells (R.map V8).toArray 24) _ rfl)
        have hNE := fun w => neqD w R R HR32.out HR32.out
        have hEG := eqGuardD
        have hRR : (R == R) = true := by simp
        have hNEb : (R != R) = false := by simp
        have hBS := run_buildD (wC.alloc (.cells (R.map V8).toArray 24)) R HR32.out
        have HCS := Lib.hid (show b18 < wC.heap.size from lt_of_block (mC.get0 HB18.out))
        clear mC HTB MB HB18
        go_wp2_with (at_builtin; with_reducible refine froz_app _ _ rfl ?_)
        unfold Froz
        have mD := Lib.hid ((Mod.refl [] (wC.alloc (.cells (R.map V8).toArray 24))).alloc (.cells (dgc R).toArray 24))
        have HTD := Lib.hid (HTC.out.mod0 mD.out)
        refine wpList_appD2 rfl _ _ rfl w.heap.size (.slice pr (i + 1) cr) _ HTD.out.r rfl _ R rfl (hp_new _ _ _ (by simp)) (by rw [rts_len]; omega) (MC.out.trans0 mD.out).size ?_
        intro v9 w9 ho9 hg9 hb9 _
        rw [HR.out, ← rts_succ] at ho9
        have HTE := Lib.hid (HTD.out.push ho9 hg9 hb9)
        have ME := Lib.hid ((MC.out.trans0 mD.out).of_grown hg9 (fun z hz => .inr (HTD.out.r.row z hz)))
        have HE18 := Lib.hid ((hg9.block b18 (lt_of_block (mD.out.get0 HC18.out)) (fun hz => absurd (HBT.out.1 b18 hz.symm) (Nat.lt_irrefl _))).trans (mD.out.get0 HC18.out))
        obtain ⟨p9, c9, e9, _, _⟩ := ho9.rd
        rw [rts_len] at e9
        subst e9
        clear ho9 hg9 hb9 hS hL18 hL19 hBS HTC HTD MC mD HC18
        go_wp2_with fail
        go_roundw
        case rel => exact ⟨i + 1, gu, vt', vu, by omega, by go_num, rfl, by rw [show ki m (i + 1) = 0 from if_pos (by omega)]; have h := HTE.out; rw [show ki m i = 0 from if_pos (by omega)] at h; exact h, ME.out⟩
        case measure => simp [intOf]; omega
      · by_cases h2 : i = m
        · subst h2
          go_wp2_with fail
          refine (size_any w.heap.size gt i vt _ _ HT.out.t).mono ?_
          rintro e w' ⟨rfl, rfl⟩
          go_wp2_with fail
          refine (front_any w.heap.size gt i vt _ _ HT.out.t).mono ?_
          rintro e wR ⟨vf, rfl, hof, mR⟩
          obtain ⟨pf, cf, rfl, hrf, _⟩ := hof.rd
          have hfl := HT.out.t.len
          have hE : resumeE (i : Int) (frontH hf (L.take i)) = 0 := by unfold resumeE; rw [if_neg (by omega), Int.toNat_natCast, if_neg (by simp [HT.out.t.cnt])]
          have HRS := Lib.hid (resume_any (i : Int) pf _ cf _ wR rfl hrf HT.out.t.a32 (by omega))
          have HE := Lib.hid hE
          have MR := Lib.hid mR
          clear hof hrf hE mR hfl
          go_wp2_with fail
          refine HRS.out.mono ?_
          rintro e wS ⟨v5, rfl, hif, mS⟩
          rw [HE.out, if_pos rfl, Int.toNat_natCast] at hif
          rw [HE.out]
          obtain ⟨gu2, vu2, rfl, hTS⟩ := (HT.out.mod0 MR.out).newU (HM.out.trans0 MR.out).size hif
          have hMS := (HM.out.trans0 MR.out).trans0 mS
          clear HT HM hif mS HRS MR
          have HT := Lib.hid hTS
          have HM := Lib.hid hMS
          have hxc := HXC.out _ HM.out
          clear hTS hMS
          go_wp2_with fail
          refine (add_any w.heap.size gt i vt _ x.p _ x.cap x.d _ HT.out.t (by omega) rfl ((HXR.out).mod0 HM.out) HXS.out (HH.out.mod0 HM.out) (HT'.out.mod0 HM.out)).mono ?_
          rintro e wA ⟨rfl, hA⟩
          rw [front_take L i x.d HLI.out] at hA
          obtain ⟨vt', hTA⟩ := HT.out.addT hA
          have HTA := Lib.hid hTA
          have MA := Lib.hid (HM.out.trans hA.mod (fun y hy => by
            rcases mem_foot hy with rfl | hy
            · exact .inr HT.out.t.base
            · exact .inr (HT.out.t.own.row y hy)))
          clear hA hTA
          go_wp2_with fail
          refine (lroot_any w.heap.size gt (i + 1) vt' _ wA HTA.out.t (HH.out.mod0 MA.out)).mono ?_
          rintro e wB ⟨rfl, mB⟩
          rw [logRoot_front]
          have hR32 : (rootH hf (L.take (i + 1))).length = 32 := rootH_len HH.out.len _
          have HRO := Lib.hid (fun (W : World) (k : Mod [] w W) => show Calls Tryd.prog 20 #[.slice (some ⟨b, o, none⟩) (i + 1 : Nat) cp] W fun e w' => e = .returned (dv (rootH hf (L.take (i + 1)))) ∧ Mod [] W w' by
            have h := root_any (hf := hf) (i + 1) (xs.take (i + 1)) (some ⟨b, o, none⟩) cp (i + 1) W (by rw [List.length_take, ← HN.out]; omega) (Nat.le_refl _) ((HI.out.mod0 k).take (i + 1)) (HH.out.mod0 k)
            rw [show ds (xs.take (i + 1)) = L.take (i + 1) by rw [HL.out]; simp [ds]] at h
            exact h)
          obtain ⟨R, hR⟩ : ∃ R, R = rootH hf (L.take (i + 1)) := ⟨_, rfl⟩
          rw [← hR] at hR32 HRO ⊢
          have HR := Lib.hid hR
          have HR32 := Lib.hid hR32
          have hS := storeNewD wB R hR32
          have HB18 := Lib.hid (hp_new wB (.cells (R.map V8).toArray 24) _ rfl)
          have MB := Lib.hid ((MA.out.trans0 mB).alloc (.cells (R.map V8).toArray 24))
          have HTB := Lib.hid (HTA.out.mod0 (mB.alloc (.cells (R.map V8).toArray 24)))
          obtain ⟨b18, hb18⟩ : ∃ b18, b18 = wB.heap.size := ⟨_, rfl⟩
          have HBT := Lib.hid (show (∀ z, (Value.slice pr (i + 1) cr).ownBlock = some z → z < b18) ∧ (∀ z, vu2.ownBlock = some z → z < b18) ∧ gu2 < b18 ∧ w.heap.size ≤ b18 from by
            rw [hb18]
            have k := mB
            exact ⟨(HTA.out.mod0 k).r.lt, (HTA.out.mod0 k).u.own.lt, (HTA.out.mod0 k).u.lt, (MA.out.trans0 mB).size⟩)
          clear mB hR hR32 HTA MA
          go_wp2_with fail
          refine (HRO.out _ MB.out).mono ?_
          rintro e wC ⟨rfl, mC⟩
          rw [← hb18] at HB18 ⊢
          clear hS hb18
          have hS := storeNewD wC R HR32.out
          have HC18 := Lib.hid (hp_old (o := .cells (R.map V8).toArray 24) (mC.get0 HB18.out))
          have HTC := Lib.hid (HTB.out.mod0 (mC.alloc (.cells (R.map V8).toArray 24)))
          have MC := Lib.hid ((MB.out.trans0 mC).alloc (.cells (R.map V8).toArray 24))
          have hL18 := loadDv R HR32.out HC18.out
          have hL19 := loadDv R HR32.out (hp_new wC (.cells (R.map V8).toArray 24) _ rfl)
          have hNE := fun w => neqD w R R HR32.out HR32.out
          have hEG := eqGuardD
          have hRR : (R == R) = true := by simp
          have hNEb : (R != R) = false := by simp
          have hBS := run_buildD (wC.alloc (.cells (R.map V8).toArray 24)) R HR32.out
          have HCS := Lib.hid (show b18 < wC.heap.size from lt_of_block (mC.get0 HB18.out))
          clear mC HTB MB HB18
          go_wp2_with (at_builtin; with_reducible refine froz_app _ _ rfl ?_)
          unfold Froz
          have mD := Lib.hid ((Mod.refl [] (wC.alloc (.cells (R.map V8).toArray 24))).alloc (.cells (dgc R).toArray 24))
          have HTD := Lib.hid (HTC.out.mod0 mD.out)
          refine wpList_appD2 rfl _ _ rfl w.heap.size (.slice pr (i + 1) cr) _ HTD.out.r rfl _ R rfl (hp_new _ _ _ (by simp)) (by rw [rts_len]; omega) (MC.out.trans0 mD.out).size ?_
          intro v9 w9 ho9 hg9 hb9 _
          rw [HR.out, ← rts_succ] at ho9
          have HTE := Lib.hid (HTD.out.push ho9 hg9 hb9)
          have ME := Lib.hid ((MC.out.trans0 mD.out).of_grown hg9 (fun z hz => .inr (HTD.out.r.row z hz)))
          have HE18 := Lib.hid ((hg9.block b18 (lt_of_block (mD.out.get0 HC18.out)) (fun hz => absurd (HBT.out.1 b18 hz.symm) (Nat.lt_irrefl _))).trans (mD.out.get0 HC18.out))
          obtain ⟨p9, c9, e9, _, _⟩ := ho9.rd
          rw [rts_len] at e9
          subst e9
          clear ho9 hg9 hb9 hS hL18 hL19 hBS HTC HTD MC mD HC18
          have hxd := HXC.out _ ME.out
          go_wp2_with fail
          refine (add_any w.heap.size gu2 i vu2 _ x.p _ x.cap x.d _ HTE.out.u (by omega) rfl ((HXR.out).mod0 ME.out) HXS.out (HH.out.mod0 ME.out) (HT'.out.mod0 ME.out)).mono ?_
          rintro e wF ⟨rfl, hF⟩
          rw [front_take L i x.d HLI.out] at hF
          obtain ⟨vu', hTF⟩ := HTE.out.swap.addT hF
          have HTF := Lib.hid hTF.swap
          have MF := Lib.hid (ME.out.trans hF.mod (fun y hy => by
            rcases mem_foot hy with rfl | hy
            · exact .inr HTE.out.u.base
            · exact .inr (HTE.out.u.own.row y hy)))
          have HF18 := Lib.hid (hF.mod.get HE18.out (fun hx => by
            rcases mem_foot hx with hx | hx
            · have := HBT.out.2.2.1; omega
            · exact absurd (HBT.out.2.1 b18 hx) (Nat.lt_irrefl _)))
          clear hF hTF HTE ME HE18
          go_wp2_with fail
          refine (lroot_any w.heap.size gu2 (i + 1) vu' _ wF HTF.out.u (HH.out.mod0 MF.out)).mono ?_
          rintro e wG ⟨rfl, mG⟩
          rw [logRoot_front, ← HR.out]
          have hS := storeNewD wG R HR32.out
          have HG18 := Lib.hid (hp_old (o := .cells (R.map V8).toArray 24) (mG.get0 HF18.out))
          have HTG := Lib.hid (HTF.out.mod0 (mG.alloc (.cells (R.map V8).toArray 24)))
          have MG := Lib.hid ((MF.out.trans0 mG).alloc (.cells (R.map V8).toArray 24))
          have hL18 := loadDv R HR32.out HG18.out
          have hL21 := loadDv R HR32.out (hp_new wG (.cells (R.map V8).toArray 24) _ rfl)
          clear mG HTF MF HF18
          go_wp2_with fail
          go_roundw
          case rel => exact ⟨i + 1, gu2, vt', vu', by omega, by go_num, rfl, by rw [show ki i (i + 1) = i + 1 from if_neg (by omega)]; exact HTG.out, MG.out⟩
          case measure => simp [intOf]; omega

        · have e1 : ((i : Int) == (m : Int)) = false := by simp; omega
          have e2 : decide ((i : Int) = (m : Int)) = false := by simp; omega
          have e3 : decide ((m : Int) ≤ (i : Int)) = true := by simp; omega
          have e4 : (i == m) = false := by simp; omega
          have hxc := HXC.out _ HM.out
          have hT2 := HT.out
          rw [show ki m i = i from if_neg (by omega)] at hT2
          clear HT
          have HT := Lib.hid hT2
          clear hT2
          go_wp2_with fail
          refine (add_any w.heap.size gt i vt _ x.p _ x.cap x.d _ HT.out.t (by omega) rfl ((HXR.out).mod0 HM.out) HXS.out (HH.out.mod0 HM.out) (HT'.out.mod0 HM.out)).mono ?_
          rintro e wA ⟨rfl, hA⟩
          rw [front_take L i x.d HLI.out] at hA
          obtain ⟨vt', hTA⟩ := HT.out.addT hA
          have HTA := Lib.hid hTA
          have MA := Lib.hid (HM.out.trans hA.mod (fun y hy => by
            rcases mem_foot hy with rfl | hy
            · exact .inr HT.out.t.base
            · exact .inr (HT.out.t.own.row y hy)))
          clear hA hTA
          go_wp2_with fail
          refine (lroot_any w.heap.size gt (i + 1) vt' _ wA HTA.out.t (HH.out.mod0 MA.out)).mono ?_
          rintro e wB ⟨rfl, mB⟩
          rw [logRoot_front]
          have hR32 : (rootH hf (L.take (i + 1))).length = 32 := rootH_len HH.out.len _
          have HRO := Lib.hid (fun (W : World) (k : Mod [] w W) => show Calls Tryd.prog 20 #[.slice (some ⟨b, o, none⟩) (i + 1 : Nat) cp] W fun e w' => e = .returned (dv (rootH hf (L.take (i + 1)))) ∧ Mod [] W w' by
            have h := root_any (hf := hf) (i + 1) (xs.take (i + 1)) (some ⟨b, o, none⟩) cp (i + 1) W (by rw [List.length_take, ← HN.out]; omega) (Nat.le_refl _) ((HI.out.mod0 k).take (i + 1)) (HH.out.mod0 k)
            rw [show ds (xs.take (i + 1)) = L.take (i + 1) by rw [HL.out]; simp [ds]] at h
            exact h)
          obtain ⟨R, hR⟩ : ∃ R, R = rootH hf (L.take (i + 1)) := ⟨_, rfl⟩
          rw [← hR] at hR32 HRO ⊢
          have HR := Lib.hid hR
          have HR32 := Lib.hid hR32
          have hS := storeNewD wB R hR32
          have HB18 := Lib.hid (hp_new wB (.cells (R.map V8).toArray 24) _ rfl)
          have MB := Lib.hid ((MA.out.trans0 mB).alloc (.cells (R.map V8).toArray 24))
          have HTB := Lib.hid (HTA.out.mod0 (mB.alloc (.cells (R.map V8).toArray 24)))
          obtain ⟨b18, hb18⟩ : ∃ b18, b18 = wB.heap.size := ⟨_, rfl⟩
          have HBT := Lib.hid (show (∀ z, (Value.slice pr (i + 1) cr).ownBlock = some z → z < b18) ∧ (∀ z, vu.ownBlock = some z → z < b18) ∧ gu < b18 ∧ w.heap.size ≤ b18 from by
            rw [hb18]
            have k := mB
            exact ⟨(HTA.out.mod0 k).r.lt, (HTA.out.mod0 k).u.own.lt, (HTA.out.mod0 k).u.lt, (MA.out.trans0 mB).size⟩)
          clear mB hR hR32 HTA MA
          go_wp2_with fail
          refine (HRO.out _ MB.out).mono ?_
          rintro e wC ⟨rfl, mC⟩
          rw [← hb18] at HB18 ⊢
          clear hS hb18
          have hS := storeNewD wC R HR32.out
          have HC18 := Lib.hid (hp_old (o := .cells (R.map V8).toArray 24) (mC.get0 HB18.out))
          have HTC := Lib.hid (HTB.out.mod0 (mC.alloc (.cells (R.map V8).toArray 24)))
          have MC := Lib.hid ((MB.out.trans0 mC).alloc (.cells (R.map V8).toArray 24))
          have hL18 := loadDv R HR32.out HC18.out
          have hL19 := loadDv R HR32.out (hp_new wC (.cells (R.map V8).toArray 24) _ rfl)
          have hNE := fun w => neqD w R R HR32.out HR32.out
          have hEG := eqGuardD
          have hRR : (R == R) = true := by simp
          have hNEb : (R != R) = false := by simp
          have hBS := run_buildD (wC.alloc (.cells (R.map V8).toArray 24)) R HR32.out
          have HCS := Lib.hid (show b18 < wC.heap.size from lt_of_block (mC.get0 HB18.out))
          clear mC HTB MB HB18
          go_wp2_with (at_builtin; with_reducible refine froz_app _ _ rfl ?_)
          unfold Froz
          have mD := Lib.hid ((Mod.refl [] (wC.alloc (.cells (R.map V8).toArray 24))).alloc (.cells (dgc R).toArray 24))
          have HTD := Lib.hid (HTC.out.mod0 mD.out)
          refine wpList_appD2 rfl _ _ rfl w.heap.size (.slice pr (i + 1) cr) _ HTD.out.r rfl _ R rfl (hp_new _ _ _ (by simp)) (by rw [rts_len]; omega) (MC.out.trans0 mD.out).size ?_
          intro v9 w9 ho9 hg9 hb9 _
          rw [HR.out, ← rts_succ] at ho9
          have HTE := Lib.hid (HTD.out.push ho9 hg9 hb9)
          have ME := Lib.hid ((MC.out.trans0 mD.out).of_grown hg9 (fun z hz => .inr (HTD.out.r.row z hz)))
          have HE18 := Lib.hid ((hg9.block b18 (lt_of_block (mD.out.get0 HC18.out)) (fun hz => absurd (HBT.out.1 b18 hz.symm) (Nat.lt_irrefl _))).trans (mD.out.get0 HC18.out))
          obtain ⟨p9, c9, e9, _, _⟩ := ho9.rd
          rw [rts_len] at e9
          subst e9
          clear ho9 hg9 hb9 hS hL18 hL19 hBS HTC HTD MC mD HC18
          have hxd := HXC.out _ ME.out
          go_wp2_with fail
          refine (add_any w.heap.size gu i vu _ x.p _ x.cap x.d _ HTE.out.u (by omega) rfl ((HXR.out).mod0 ME.out) HXS.out (HH.out.mod0 ME.out) (HT'.out.mod0 ME.out)).mono ?_
          rintro e wF ⟨rfl, hF⟩
          rw [front_take L i x.d HLI.out] at hF
          obtain ⟨vu', hTF⟩ := HTE.out.swap.addT hF
          have HTF := Lib.hid hTF.swap
          have MF := Lib.hid (ME.out.trans hF.mod (fun y hy => by
            rcases mem_foot hy with rfl | hy
            · exact .inr HTE.out.u.base
            · exact .inr (HTE.out.u.own.row y hy)))
          have HF18 := Lib.hid (hF.mod.get HE18.out (fun hx => by
            rcases mem_foot hx with hx | hx
            · have := HBT.out.2.2.1; omega
            · exact absurd (HBT.out.2.1 b18 hx) (Nat.lt_irrefl _)))
          clear hF hTF HTE ME HE18
          go_wp2_with fail
          refine (lroot_any w.heap.size gu (i + 1) vu' _ wF HTF.out.u (HH.out.mod0 MF.out)).mono ?_
          rintro e wG ⟨rfl, mG⟩
          rw [logRoot_front, ← HR.out]
          have hS := storeNewD wG R HR32.out
          have HG18 := Lib.hid (hp_old (o := .cells (R.map V8).toArray 24) (mG.get0 HF18.out))
          have HTG := Lib.hid (HTF.out.mod0 (mG.alloc (.cells (R.map V8).toArray 24)))
          have MG := Lib.hid ((MF.out.trans0 mG).alloc (.cells (R.map V8).toArray 24))
          have hL18 := loadDv R HR32.out HG18.out
          have hL21 := loadDv R HR32.out (hp_new wG (.cells (R.map V8).toArray 24) _ rfl)
          clear mG HTF MF HF18
          go_wp2_with fail
          go_roundw
          case rel => exact ⟨i + 1, gu, vt', vu', by omega, by go_num, rfl, by rw [show ki m (i + 1) = i + 1 from if_neg (by omega)]; exact HTG.out, MG.out⟩
          case measure => simp [intOf]; omega

    · have hin : n = i := by omega
      subst hin
      have hd : decide ((n : Int) < (n : Int)) = false := by simp
      have HG := Lib.hid (Growth_any xs pp cp n m _ HN.out (HI.out.mod0 HM.out) (HH.out.mod0 HM.out))
      have hE : growE n (m : Int) = 0 := by unfold growE; rw [if_neg (by omega)]
      rw [← HL.out, hE] at HG
      clear hE
      go_wp2_with fail
      refine HG.out.mono ?_
      rintro e wA ⟨vp, rfl, hop, mA⟩
      obtain ⟨p5, c5, rfl, hrp, _⟩ := hop.rd
      obtain ⟨p6, c6, e6, hrr, _⟩ := HT.out.r.rd
      rw [rts_len] at e6
      injection e6 with e61 _ e62
      subst e61 e62
      obtain ⟨br, o', rfl, _⟩ := hrr.elem dgc_len m (rootH hf (L.take m)) (rts_get hf L (n + 1) m (by omega))
      have r1 := rootH_len HH.out.len (L.take m)
      have r2 := rootH_len HH.out.len (L.take n)
      have hLm := loadD_at (w := wA.drew) (hrr.mod0 mA.drew) (i := m) _ (rts_get hf L (n + 1) m (by omega)) r1
      have hLn := loadD_at (w := wA.drew) (hrr.mod0 mA.drew) (i := n) _ (rts_get hf L (n + 1) n (by omega)) r2
      have HMA := Lib.hid (HM.out.trans0 mA)
      have HTA := Lib.hid (HT.out.mod0 mA)
      have hgl : (growOf hf L m).length ≤ 9223372036854775807 := by
        have h := growOf_len (hf := hf) L m (by have := HLN.out; omega)
        omega
      have HGR := Lib.hid (grew_any (hf := hf) (rootH hf (L.take m)) (rootH hf (L.take n)) m n (growOf hf L m) p5 _ c5 wA.drew rfl (hrp.mod0 (Mod.refl [] wA).drew) (growOf_32 HH.out.len _ _) r1 r2 (HH.out.mod0 HMA.out.drew))
      have hLL : L.take n = L := List.take_of_length_le (by have := HLN.out; omega)
      have hE : grewE hf (rootH hf (L.take m)) m (rootH hf (L.take n)) n (growOf hf L m) = 0 := by
        have h := grew_ok (hf := hf) L m (by have := HLN.out; omega) (by have := HLN.out; omega)
        rw [HLN.out] at h
        rw [hLL]; exact h
      rw [hE] at HGR
      have HLL := Lib.hid hLL
      have HRR := Lib.hid (hrr.mod0 mA)
      have R2 := Lib.hid r2
      generalize growOf hf L (m : Int) = GO at *
      obtain ⟨RM, hRM⟩ : ∃ RM, RM = rootH hf (L.take m) := ⟨_, rfl⟩
      obtain ⟨RN, hRN⟩ : ∃ RN, RN = rootH hf (L.take n) := ⟨_, rfl⟩
      rw [← hRM] at hLm HGR
      rw [← hRN] at hLn HGR R2
      have HRN := Lib.hid hRN
      have f1 : (0 : Int) ≤ (m : Int) := by omega
      have f2 : (m : Int) < (n : Int) + 1 := by omega
      have f3 : (m : Int) < ((n + 1 : Nat) : Int) := by omega
      have f4 : (n : Int) < (n : Int) + 1 := by omega
      clear hop mA hrp hrr r1 r2 hE hLL hRM hRN HG HT HM hgl
      go_wp2_with fail
      go_region_law (go_simp; go_at_call 43; with_reducible refine (HGR.out).mono ?_
                     rintro _ wB ⟨rfl, mB⟩)
      all_goals
        have HMB := Lib.hid (HMA.out.drew.trans0 mB)
        have HTB := Lib.hid (HTA.out.mod0 ((Mod.refl [] wA).drew.trans0 mB))
        have HRB := Lib.hid (HRR.out.mod0 ((Mod.refl [] wA).drew.trans0 mB))
        clear hLm hLn mB
        go_wp2_with fail
        refine (size_any w.heap.size gt n vt _ _ HTB.out.t).mono ?_
        rintro e w' ⟨rfl, rfl⟩
        by_cases hn0 : n = 0
        · have e0 : ((n : Int) == 0) = true := by simp; omega
          have e00 : decide ((n : Int) = 0) = true := by simp; omega
          clear hn0
          go_wp2_with fail
          go_ret
          exact ⟨rfl, HMB.out⟩
        · have e0 : ((n : Int) == 0) = false := by simp; omega
          have e00 : decide ((n : Int) = 0) = false := by simp; omega
          have e01 : (n == 0) = false := by simp; omega
          have hpos : 0 < n := by omega
          clear hn0
          go_wp2_with fail
          refine (HQ.out _ hpos).mono ?_
          rintro e w' ⟨j, hj, rfl, rfl⟩
          have hjn : j < n := by omega
          have HPA := Lib.hid (Path_any xs pp cp n j _ HN.out (HI.out.mod0 HMB.out) (HH.out.mod0 HMB.out))
          have hE : pathE n (j : Int) = 0 := by unfold pathE; rw [if_neg (by omega)]
          rw [← HL.out, hE] at HPA
          clear hE
          go_wp2_with fail
          refine HPA.out.mono ?_
          rintro e wC ⟨vq, rfl, hoq, mC⟩
          obtain ⟨p7, c7, rfl, hrq, _⟩ := hoq.rd
          obtain ⟨x, hxj⟩ : ∃ x, xs[j]? = some x := ⟨xs[j]'(by have := HN.out; omega), List.getElem?_eq_getElem _⟩
          have hxm := List.mem_of_getElem? hxj
          have hLj : L[j]? = some x.d := by rw [HL.out]; simp [ds, hxj]
          obtain ⟨b, o, rfl, hxc0⟩ := HI.out.cell j x hxj
          have HMC := Lib.hid (HMB.out.trans0 mC)
          have hxc := cell_mod0 HMC.out hxc0
          unfold SlR.v at hxc
          have hLn := loadD_at (w := wC.drew) (HRB.out.mod0 mC.drew) (i := n) _ (rts_get hf L (n + 1) n (by omega)) (by rw [← HRN.out]; exact R2.out)
          rw [← HRN.out] at hLn
          have HCK := Lib.hid (check_any (hf := hf) RN n j x.d x.p _ x.cap (pathOf hf L j) p7 _ c7 wC.drew rfl ((HI.out.each x hxm).mod0 HMC.out.drew) (HI.out.small x hxm) rfl (hrq.mod0 (Mod.refl [] wC).drew) (pathOf_32 HH.out.len _ _) R2.out (HH.out.mod0 HMC.out.drew))
          have hE : checkE hf RN n j x.d (pathOf hf L j) = 0 := by
            have h := check_ok (hf := hf) L j x.d hLj (by have := HLN.out; omega)
            rw [HLN.out] at h
            rw [HRN.out, HLL.out]; exact h
          rw [hE] at HCK
          generalize pathOf hf L (j : Int) = PO at *
          have f5 : (0 : Int) ≤ (j : Int) := by omega
          clear hoq mC hrq hE hxm hLj hxc0 hxj hj
          go_wp2_with fail
          go_region_law (go_simp; go_at_call 32; with_reducible refine (HCK.out).mono ?_
                         rintro _ wD ⟨rfl, mD⟩)
          all_goals
            have HMD := Lib.hid (HMC.out.drew.trans0 mD)
            clear mD hLn hxc
            go_wp2_with fail
            go_ret
            exact ⟨rfl, HMD.out⟩
end Go.Proofs.YtbbobpjcbnfpfaaDoor
