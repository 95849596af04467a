/- A Hasher in memory; New, Len, Write. Conditions: the table of the steps lies in its variable; what is written does not lie in the Hasher; fewer than 2^62 bytes in all. -/
import Derived.Test.YtmdgefiojapogaaDoorDgTake
import Derived.Test.YtmdgefiojapogaaDoorSl
namespace Go.Proofs.YtmdgefiojapogaaDoor
open Go.RowKit
attribute [local go_sem high] one8 st8 cm8 b_and8 b_and8r b_and8l b_or8 b_or8r b_or8l b_xor8 b_xor8r b_xor8l b_andNot8 b_andNot8r b_andNot8l b_add8 b_add8r b_add8l b_sub8 b_sub8r b_sub8l b_mul8 b_mul8r b_mul8l b_eql8 b_eql8r b_eql8l b_neq8 b_neq8r b_neq8l b_lss8 b_lss8r b_lss8l b_leq8 b_leq8r b_leq8l b_gtr8 b_gtr8r b_gtr8l b_geq8 b_geq8r b_geq8l b_quo8r b_rem8r b_shl8r b_shr8r b_shl8l b_shr8l u_xor8 g_eql8 g_neq8 g_eql8' g_neq8' one32 st32 cm32 b_and32 b_and32r b_and32l b_or32 b_or32r b_or32l b_xor32 b_xor32r b_xor32l b_andNot32 b_andNot32r b_andNot32l b_add32 b_add32r b_add32l b_sub32 b_sub32r b_sub32l b_mul32 b_mul32r b_mul32l b_eql32 b_eql32r b_eql32l b_neq32 b_neq32r b_neq32l b_lss32 b_lss32r b_lss32l b_leq32 b_leq32r b_leq32l b_gtr32 b_gtr32r b_gtr32l b_geq32 b_geq32r b_geq32l b_quo32r b_rem32r b_shl32r b_shr32r b_shl32l b_shr32l u_xor32 g_eql32 g_neq32 g_eql32' g_neq32' one64 st64 cm64 b_and64 b_and64r b_and64l b_or64 b_or64r b_or64l b_xor64 b_xor64r b_xor64l b_andNot64 b_andNot64r b_andNot64l b_add64 b_add64r b_add64l b_sub64 b_sub64r b_sub64l b_mul64 b_mul64r b_mul64l b_eql64 b_eql64r b_eql64l b_neq64 b_neq64r b_neq64l b_lss64 b_lss64r b_lss64l b_leq64 b_leq64r b_leq64l b_gtr64 b_gtr64r b_gtr64l b_geq64 b_geq64r b_geq64l b_quo64r b_rem64r b_shl64r b_shr64r b_shl64l b_shr64l u_xor64 g_eql64 g_neq64 g_eql64' g_neq64' c_u8_u8 c_u8_u32 c_u8_u64 c_i_u8 c_u32_u8 c_u32_u32 c_u32_u64 c_i_u32 c_u64_u8 c_u64_u32 c_u64_u64 c_i_u64 c_u8_i c_u32_i
attribute [local go_sem ↓] ce8 ce32 ce64
attribute [local go_sem ↓] sliced_slp
/-- The cells of a Hasher. -/
def hcells (s : St) (wt : List UInt8) (n : Nat) : List Value := [V32 s.a, V32 s.b, V32 s.c, V32 s.d, V32 s.e, V32 s.f, V32 s.g, V32 s.h] ++ (wt.map V8 ++ [.int .i64 n])
theorem hcells_length (s : St) (wt : List UInt8) (n : Nat) (hw : wt.length = 64) : (hcells s wt n).length = 73 := by simp [hcells, hw]
theorem hcells_n (s : St) (wt : List UInt8) (n : Nat) (hw : wt.length = 64) : (hcells s wt n).toArray[72]? = some (.int .i64 n) := by
  simp [hcells, List.getElem?_append, hw]
theorem hcells_set_n (s : St) (wt : List UInt8) (n m : Nat) (hw : wt.length = 64) : (hcells s wt n).toArray.setIfInBounds 72 (.int .i64 m) = (hcells s wt m).toArray := by
  simp [hcells, List.set_append, hw]
theorem hcells_copy (s : St) (wt c : List UInt8) (n at_ : Nat) (hw : wt.length = 64) (h : at_ + c.length ≤ 64) :
    (hcells s wt n).take (8 + at_) ++ (c.map V8 ++ (hcells s wt n).drop (8 + at_ + c.length)) = hcells s (wt.take at_ ++ c ++ wt.drop (at_ + c.length)) n := by
  unfold hcells
  rw [List.take_append, List.drop_append]
  rw [List.take_of_length_le (by simp), List.drop_eq_nil_of_le (by simp; omega)]
  simp only [List.length_cons, List.length_nil, Nat.reduceAdd, show 8 + at_ - 8 = at_ by omega, show 8 + at_ + c.length - 8 = at_ + c.length by omega, List.nil_append]
  rw [List.take_append_of_le_length (by simp; omega), List.drop_append_of_le_length (by simp; omega)]
  simp [List.map_take, List.map_drop]
theorem hcells_s (s : St) (wt : List UInt8) (n j : Nat) (v : Value) (hv : [V32 s.a, V32 s.b, V32 s.c, V32 s.d, V32 s.e, V32 s.f, V32 s.g, V32 s.h][j]? = some v) : (hcells s wt n)[0 + j]? = some v := by
  have hj : j < 8 := (List.getElem?_eq_some_iff.1 hv).1
  rw [Nat.zero_add, hcells, List.getElem?_append_left (by simpa using hj)]; exact hv
theorem hcells_w (s : St) (wt : List UInt8) (n j : Nat) (v : Value) (hv : (wt.map V8)[j]? = some v) : (hcells s wt n)[8 + j]? = some v := by
  have hj : j < (wt.map V8).length := (List.getElem?_eq_some_iff.1 hv).1
  rw [hcells, List.getElem?_append_right (by simp), List.getElem?_append_left (by simpa using hj)]
  simpa using hv
theorem hcells_state (s r : St) (wt : List UInt8) (n : Nat) :
    (hcells s wt n).take 0 ++ ([V32 r.a, V32 r.b, V32 r.c, V32 r.d, V32 r.e, V32 r.f, V32 r.g, V32 r.h] ++ (hcells s wt n).drop 8) = hcells r wt n := by
  simp [hcells]
/-- A Hasher that has taken l. -/
def IsHash (w : World) (g : Nat) (l : List UInt8) : Prop :=
  ∃ wt : List UInt8, wt.length = 64 ∧ wt.take (l.length % 64) = tl l ∧ w.heap[g]? = some (.cells (hcells (hst l) wt l.length).toArray 128 (0, 0))
theorem IsHash.new {w : World} {g : Nat} (hb : w.heap[g]? = some (.cells (hcells st0 (zeros 64) 0).toArray 128 (0, 0))) : IsHash w g [] := ⟨zeros 64, zeros_length 64, rfl, hb⟩
theorem IsHash.mod {S : List Nat} {a w : World} {g : Nat} {l : List UInt8} (h : IsHash a g l) (hm : Mod S a w) (hg : g ∉ S) : IsHash w g l :=
  let ⟨wt, h1, h2, h3⟩ := h; ⟨wt, h1, h2, hm.get h3 hg⟩
theorem IsHash.lt {w : World} {g : Nat} {l : List UInt8} (h : IsHash w g l) : g < w.heap.size := let ⟨_, _, _, h3⟩ := h; lt_of_block h3

set_option maxRecDepth 100000 in
theorem begin_any (w : World) : Calls Tryd.prog 72 #[] w fun e w' => e = .returned (stv st0) ∧ Mod [] w w' := by
  go_enter Tryd.func72, Tryd.ntmps72
  go_wp2
  exact bodyPost_ret (results_cell_row rfl _ _ _ _ _ _ _ rfl (hp_new _ _ _ rfl) Tryd.underlying124 rfl info62) rfl ⟨rfl, (Mod.refl [] w).alloc _⟩

theorem built_new : Tryd.prog.built 128 [(0, stv st0)] = some (hcells st0 (List.replicate 64 0) 0).toArray := by kernel_rfl
/-- A new Hasher is handed back. -/
def NewPost (w : World) (e : Ending) (w' : World) : Prop := ∃ g, e = .returned (.pointer (some ⟨g, 0, none⟩)) ∧ w.heap.size ≤ g ∧ IsHash w' g [] ∧ Mod [] w w'
set_option maxRecDepth 100000 in
theorem new_any (w : World) : Calls Tryd.prog 59 #[] w (NewPost w) := by
  go_enter Tryd.func59, Tryd.ntmps59
  go_wp2_with (first
    | (go_at_call 72; refine (begin_any _).mono ?_; rintro e w1 ⟨rfl, hm1⟩)
    | (refine wpList_built rfl 128 _ rfl _ built_new ?_))
  go_ret
  exact ⟨_, rfl, hm1.size, ⟨List.replicate 64 0, rfl, rfl, hp_new _ _ _ rfl⟩, hm1.alloc _⟩

theorem info5 : (Tryd.prog.info? 5).map (·.size) = some 1 := by kernel_rfl
def slLen : Value → Nat | .slice _ n _ => n | _ => 0
theorem loadO62 (p : Value) : Instr.loadAt 124 p = LoadO 124 p := rfl
theorem loadO64 (p : Value) : Instr.loadAt 126 p = LoadO 126 p := rfl
theorem storeO62 (p v : Value) : Instr.storeAt 124 p v = StoreO 124 p v := rfl
attribute [local go_sem ↓] loadO62 loadO64 storeO62
theorem storeS {w : World} {b : Nat} {C : Array Value} (r : St) (hg : w.heap[b]? = some (.cells C 124 (0, 0))) (hC : C.size = 8) :
    (StoreO 124 (.pointer (some ⟨b, 0, none⟩)) (stv r)).run Tryd.prog w = .ok () (w.setRow b #[V32 r.a, V32 r.b, V32 r.c, V32 r.d, V32 r.e, V32 r.f, V32 r.g, V32 r.h]) :=
  storeO_row (P := Tryd.prog) (cells := #[V32 r.a, V32 r.b, V32 r.c, V32 r.d, V32 r.e, V32 r.f, V32 r.g, V32 r.h]) hg hC info62 (by simp [one32])
theorem loadS {w : World} {b : Nat} (r : St) (hg : w.heap[b]? = some (.cells #[V32 r.a, V32 r.b, V32 r.c, V32 r.d, V32 r.e, V32 r.f, V32 r.g, V32 r.h] 124 (0, 0))) :
    (LoadO 124 (.pointer (some ⟨b, 0, none⟩))).run Tryd.prog w = .ok (stv r) w := loadO_row hg Tryd.underlying124 rfl info62
theorem storeW {w : World} {b : Nat} {C : Array Value} (p : List UInt8) (hp : p.length = 64) (hg : w.heap[b]? = some (.cells C 126 (0, 0))) (hC : C.size = 64) :
    (StoreO 126 (.pointer (some ⟨b, 0, none⟩)) (.agg (p.map V8).toArray)).run Tryd.prog w = .ok () (w.setRow b (p.map V8).toArray) :=
  storeO_row (P := Tryd.prog) hg (by simp [hp, hC]) (by simpa [hp] using info64) (by simp [one8])
theorem loadW {w : World} {b : Nat} (p : List UInt8) (hp : p.length = 64) (hg : w.heap[b]? = some (.cells (p.map V8).toArray 126 (0, 0))) :
    (LoadO 126 (.pointer (some ⟨b, 0, none⟩))).run Tryd.prog w = .ok (.agg (p.map V8).toArray) w := loadO_row hg Tryd.underlying126 rfl (by simpa [hp] using info64)
theorem store_state {w : World} {g : Nat} {s : St} {wt : List UInt8} {n : Nat} (r : St) (hb : w.heap[g]? = some (.cells (hcells s wt n).toArray 128 (0, 0))) (hw : wt.length = 64) :
    (StoreO 124 (.pointer (some ⟨g, 0, none⟩)) (stv r)).run Tryd.prog w = .ok () (w.setRow g (hcells r wt n).toArray) := by
  have hS := storeO_blk (P := Tryd.prog) (ty := 124) (o := 0) (cells := #[V32 r.a, V32 r.b, V32 r.c, V32 r.d, V32 r.e, V32 r.f, V32 r.g, V32 r.h]) hb (by simp [hcells_length _ _ _ hw]) info62 (by simp [one32])
  exact hS
set_option maxRecDepth 100000 in
theorem write_any (g : Nat) (l : List UInt8) (p : Option Addr) (cap : Nat) (d : List UInt8) (w : World) (h : IsHash w g l) (hd : Rd V8 w p cap d) (ho : d ≠ [] → Off p [g]) (ht : Tab w) (hgt : g ≠ 1)
    (hlen : l.length + d.length < 4611686018427387904) :
    Calls Tryd.prog 60 #[.pointer (some ⟨g, 0, none⟩), .slice p d.length cap] w fun e w' => e = .returned (.tuple #[]) ∧ IsHash w' g (l ++ d) ∧ Mod [g] w w' := by
  have H := Lib.hid h
  have HD := Lib.hid hd
  have HO := Lib.hid ho
  have HT := Lib.hid ht
  clear h hd ho ht
  go_enter Tryd.func60, Tryd.ntmps60
  go_wp2_with fail
  go_loopw [1] (fun v wr => ∃ (k c : Nat) (q : Option Addr), k ≤ d.length ∧ v = .slice q (d.length - k) c ∧ Rd V8 wr q c (d.drop k) ∧ (k < d.length → Off q [g]) ∧ IsHash wr g (l ++ d.take k) ∧ Mod [g] w wr) (fun v _ => slLen v)
  case atStart => exact ⟨0, cap, p, by omega, by simp, by simpa using HD.out, fun hk => HO.out (by rintro rfl; simp at hk), by simpa using H.out, Mod.refl _ _⟩
  case round =>
    obtain ⟨k, c, q, hk, rfl, hq, hoq, hh, hm⟩ := hrel
    obtain ⟨L, hLe⟩ : ∃ L, L = l ++ d.take k := ⟨_, rfl⟩
    rw [← hLe] at hh
    have hLl : L.length = l.length + k := by rw [hLe]; simp; omega
    have hLb : L.length + (d.length - k) < 4611686018427387904 := by omega
    have HLE := Lib.hid hLe
    clear hLe hLl
    have HQ := Lib.hid hq
    have HH := Lib.hid hh
    clear hq hh
    by_cases hlt : k < d.length
    · have HOQ := Lib.hid (hoq hlt)
      clear hoq
      obtain ⟨wt, hwt, htl, hb⟩ := HH.out
      have HB := Lib.hid hb
      have HTL := Lib.hid htl
      have HWT := Lib.hid hwt
      have hcn : wr.cell? ⟨g, 72, none⟩ = some (.int .i64 (L.length : Int)) := by rw [cell_blk hb, hcells_n _ _ _ hwt]
      clear hb htl hwt
      obtain ⟨m, hm64⟩ : ∃ m, m = L.length % 64 := ⟨_, rfl⟩
      have hmi : (L.length : Int) % 64 = (m : Int) := by omega
      have hm1 : (m : Int) ≤ 64 := by omega
      have hm2 : m < 64 := by omega
      have HM := Lib.hid hm64
      clear hm64
      obtain ⟨b, o, rfl, hr⟩ := HQ.out.at_ (by intro e; have := congrArg List.length e; simp at this; omega)
      obtain ⟨ch, hch⟩ : ∃ ch, ch = (d.drop k).take (64 - m) := ⟨_, rfl⟩
      have hcl : ch.length = min (d.length - k) (64 - m) := by rw [hch]; simp [Nat.min_comm]
      have hr' : ∀ j v, (ch.map V8)[j]? = some v → wr.cell? ((⟨b, o, none⟩ : Addr).add j) = some v := fun j v hv => by
        rw [Addr.add_mid]
        refine hr j v ?_
        rw [hch, List.map_take, List.getElem?_take] at hv
        split at hv
        · exact hv
        · cases hv
      have hcp := hcells_copy (hst L) wt ch L.length m HWT.out (by omega)
      have HCP := Lib.hid hcp
      have HCL := Lib.hid hcl
      have HCH := Lib.hid hch
      have HR := Lib.hid hr'
      have hc0 : 0 < ch.length := by omega
      have hc1 : ch.length ≤ d.length - k := by omega
      have hc2 : m + ch.length ≤ 64 := by omega
      have hc3 : (ch.length : Int) ≤ ((d.length - k : Nat) : Int) := by omega
      clear hcp hch hr hr' hcl
      go_wp2_with (with_reducible refine froz_copy _ _ rfl ?_)
      unfold Froz
      refine wpList_copy_own rfl _ _ _ _ rfl _ Tryd.underlying27 info5 g (8 + m) (64 - m) (64 - m) ⟨b, o, none⟩ (d.length - k) c rfl rfl _ _ HB.out (ch.map V8) (by simpa using HCL.out) HR.out (by simp [hcells_length _ _ _ HWT.out]; omega) (by simp [one8]) ?_
      refine abs_w (C := fun W => wpList _ _ _ _ _ W) (fun W => W.heap[g]? = some (.cells (hcells (hst L) (wt.take m ++ ch ++ wt.drop (m + ch.length)) L.length).toArray 128 (0, 0)) ∧ Mod [g] w W ∧ Rd V8 W (some ⟨b, o, none⟩) c (d.drop k))
        ⟨by rw [hp_setRow HB.out]; simp only [List.length_map]; rw [HCP.out], hm.setRow (.inl (by simp)) _, HQ.out.mod ((Mod.refl [g] wr).setRow (.inl (by simp)) _) fun _ => HOQ.out⟩ ?_
      rintro W2 ⟨hB2, hM2, hQ2⟩
      simp only [goInt, List.length_map]
      obtain ⟨wt2, hwt2⟩ : ∃ wt2, wt2 = wt.take m ++ ch ++ wt.drop (m + ch.length) := ⟨_, rfl⟩
      rw [← hwt2] at hB2
      have hl2 : wt2.length = 64 := by rw [hwt2]; have := HWT.out; simp; omega
      have hcn2 : W2.cell? ⟨g, 72, none⟩ = some (.int .i64 (L.length : Int)) := by rw [cell_blk hB2, hcells_n _ _ _ hl2]
      have hfz2 : W2.frozen? ⟨g, 72, none⟩ = false := frozen_blk hB2 72
      have HB2 := Lib.hid hB2
      have HQ2 := Lib.hid hQ2
      have HW2 := Lib.hid hwt2
      have HL2 := Lib.hid hl2
      clear hB2 hQ2 hwt2 hl2 hcn
      by_cases hf : m + ch.length = 64
      · have hfb : (((m : Int) + (ch.length : Int)) == 64) = true := by simp; omega
        have HF := Lib.hid hf
        clear hf
        go_wp2_with fail
        refine abs_w (C := fun W => Code.wp _ _ _ _ W) (fun W => W.heap[g]? = some (.cells (hcells (hst L) wt2 (L.length + ch.length)).toArray 128 (0, 0)) ∧ Mod [g] w W ∧ Rd V8 W (some ⟨b, o, none⟩) c (d.drop k)) ⟨?_, hM2.setCell (.inl (by simp)) _, HQ2.out.mod ((Mod.refl [g] W2).setCell (.inl (by simp)) _) fun _ => HOQ.out⟩ ?_
        · have e : ((L.length : Int) + (ch.length : Int)) = ((L.length + ch.length : Nat) : Int) := by omega
          rw [setCell_blk _ HB2.out, hp_setRow HB2.out, e, hcells_set_n _ _ _ _ HL2.out]
        clear hcn2 hfz2 hM2
        rintro W3 ⟨hB3, hM3, hQ3⟩
        have hr1 := range_blk hB3 0 [V32 (hst L).a, V32 (hst L).b, V32 (hst L).c, V32 (hst L).d, V32 (hst L).e, V32 (hst L).f, V32 (hst L).g, V32 (hst L).h] (fun j v hv => by simpa using hcells_s _ _ _ j v hv)
        have hr2 := range_blk hB3 8 (wt2.map V8) (fun j v hv => by simpa using hcells_w _ _ _ j v hv)
        have HR1 := Lib.hid hr1
        have HR2 := Lib.hid hr2
        have HB3 := Lib.hid hB3
        have HQ3 := Lib.hid hQ3
        have I64 := Lib.hid (show (Tryd.prog.info? 126).map (·.size) = some (wt2.map V8).length by simpa [HL2.out] using info64)
        clear hr1 hr2 hB3 hQ3
        have hl1 : (LoadO 124 (.pointer (some ⟨g, 0, none⟩))).run Tryd.prog W3.drew = .ok (stv (hst L)) W3.drew := loadO_mid (w := W3.drew) HR1.out Tryd.underlying124 rfl info62
        have hl2 : (LoadO 126 (.pointer (some ⟨g, 8, none⟩))).run Tryd.prog W3.drew = .ok (.agg (wt2.map V8).toArray) W3.drew := loadO_mid (w := W3.drew) HR2.out Tryd.underlying126 rfl I64.out
        have hT3 : Tab W3.drew := Tab.mod hM3.drew HT.out (by simpa using fun e => hgt e.symm)
        have HT3 := Lib.hid hT3
        clear hT3
        go_region_with (go_at_call 73; refine (take_any (hst L) wt2 _ HL2.out HT3.out).mono ?_; rintro e w5 ⟨rfl, hm5⟩
                        have hS := store_state (compress (hst L) wt2) (hm5.get0 HB3.out) HL2.out)
        all_goals
          have hw5 := hp_setRow (cs := (hcells (compress (hst L) wt2) wt2 (L.length + ch.length)).toArray) (hm5.get0 (hp_drew HB3.out))
          have hm6 := ((hM3.drew).trans0 hm5).setRow (g := g) (.inl (by simp)) (hcells (compress (hst L) wt2) wt2 (L.length + ch.length)).toArray
          have hq6 := ((HQ3.out.mod0 ((Mod.refl [] W3).drew.trans0 hm5))).mod ((Mod.refl [g] w5).setRow (g := g) (.inl (by simp)) (hcells (compress (hst L) wt2) wt2 (L.length + ch.length)).toArray) (fun _ => HOQ.out)
          have HW5 := Lib.hid hw5
          have HM6 := Lib.hid hm6
          have HQ6 := Lib.hid hq6
          clear hw5 hm6 hq6 hS hl1 hl2
          go_wp2_with fail
          go_roundw
          case rel =>
            have e1 : l ++ d.take (k + ch.length) = L ++ ch := by
              rw [HLE.out, List.append_assoc, List.take_add]
              congr 2
              rw [HCH.out]; simp [HCL.out]
            have e2 : wt2 = tl L ++ ch := by
              rw [HW2.out, ← HTL.out, ← HM.out, HF.out]; simp [HWT.out]
            refine ⟨k + ch.length, c - ch.length, slp (some ⟨b, o, none⟩) ch.length c 1, by omega, ?_, ?_, fun _ => HOQ.out.slp _ _ _, ?_, HM6.out⟩
            · rw [show d.length - (k + ch.length) = d.length - k - ch.length by omega]
            · have := HQ6.out.drop ch.length (by simpa using hc1)
              rwa [List.drop_drop] at this
            · have hst2 := step_full L ch (by have := HM.out; have := HF.out; omega)
              refine ⟨wt2, HL2.out, ?_, ?_⟩
              · rw [e1, hst2.2]
                have : (L ++ ch).length % 64 = 0 := by have := HM.out; have := HF.out; simp; omega
                rw [this]; rfl
              · rw [e1, hst2.1, ← e2, List.length_append]
                exact HW5.out
          case measure => simp [slLen]; omega
      · have hfb : (((m : Int) + (ch.length : Int)) == 64) = false := by simp; omega
        have hf' : m + ch.length < 64 := by omega
        clear hf
        go_wp2_with fail
        go_roundw
        case rel =>
          have e : ((L.length : Int) + (ch.length : Int)) = ((L.length + ch.length : Nat) : Int) := by omega
          have e1 : l ++ d.take (k + ch.length) = L ++ ch := by
            rw [HLE.out, List.append_assoc, List.take_add]
            congr 2
            rw [HCH.out]; simp [HCL.out]
          have hsm := step_small L ch (by have := HM.out; omega)
          refine ⟨k + ch.length, c - ch.length, slp (some ⟨b, o, none⟩) ch.length c 1, by omega, ?_, ?_, fun _ => HOQ.out.slp _ _ _, ?_, hM2.setCell (p := ⟨g, 72, none⟩) (.inl (by simp)) _⟩
          · rw [show d.length - (k + ch.length) = d.length - k - ch.length by omega]
          · have := (HQ2.out.mod ((Mod.refl [g] W2).setCell (p := ⟨g, 72, none⟩) (.inl (by simp)) (.int .i64 ((L.length : Int) + (ch.length : Int)))) (fun _ => HOQ.out)).drop ch.length (by simpa using hc1)
            rwa [List.drop_drop] at this
          · refine ⟨wt2, HL2.out, ?_, ?_⟩
            · rw [e1, hsm.2]
              have : (L ++ ch).length % 64 = m + ch.length := by have := HM.out; simp; omega
              rw [this, HW2.out, ← HTL.out, ← HM.out]
              rw [List.take_append_of_le_length (by have := HWT.out; simp; omega), List.take_of_length_le (by have := HWT.out; simp; omega)]
            · rw [e1, hsm.1, List.length_append, setCell_blk _ HB2.out, hp_setRow HB2.out, e, hcells_set_n _ _ _ _ HL2.out]
        case measure => simp [slLen]; omega
    · clear hoq
      have hk' : k = d.length := by omega
      go_wp2_with fail
      go_end0
      refine ⟨rfl, ?_, hm⟩
      have e := HLE.out
      rw [hk', List.take_length] at e
      rw [← e]
      exact HH.out
end Go.Proofs.YtmdgefiojapogaaDoor
