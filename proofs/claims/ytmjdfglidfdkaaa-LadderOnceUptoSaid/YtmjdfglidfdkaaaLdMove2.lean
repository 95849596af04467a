/- Hold where it refuses; Release, Drop, Copy of a ladder. Condition: the ladder's numbers are in their bounds. -/
import Derived.Test.YtmjdfglidfdkaaaLdMove
namespace Go.Proofs.Ytmjdfglidfdkaaa
open Go.RowKit
attribute [local go_sem high] one8 st8 cm8 b_and8 b_and8r b_and8l b_or8 b_or8r b_or8l b_xor8 b_xor8r b_xor8l b_andNot8 b_andNot8r b_andNot8l b_add8 b_add8r b_add8l b_sub8 b_sub8r b_sub8l b_mul8 b_mul8r b_mul8l b_eql8 b_eql8r b_eql8l b_neq8 b_neq8r b_neq8l b_lss8 b_lss8r b_lss8l b_leq8 b_leq8r b_leq8l b_gtr8 b_gtr8r b_gtr8l b_geq8 b_geq8r b_geq8l b_quo8r b_rem8r b_shl8r b_shr8r b_shl8l b_shr8l u_xor8 g_eql8 g_neq8 g_eql8' g_neq8' one32 st32 cm32 b_and32 b_and32r b_and32l b_or32 b_or32r b_or32l b_xor32 b_xor32r b_xor32l b_andNot32 b_andNot32r b_andNot32l b_add32 b_add32r b_add32l b_sub32 b_sub32r b_sub32l b_mul32 b_mul32r b_mul32l b_eql32 b_eql32r b_eql32l b_neq32 b_neq32r b_neq32l b_lss32 b_lss32r b_lss32l b_leq32 b_leq32r b_leq32l b_gtr32 b_gtr32r b_gtr32l b_geq32 b_geq32r b_geq32l b_quo32r b_rem32r b_shl32r b_shr32r b_shl32l b_shr32l u_xor32 g_eql32 g_neq32 g_eql32' g_neq32' one64 st64 cm64 b_and64 b_and64r b_and64l b_or64 b_or64r b_or64l b_xor64 b_xor64r b_xor64l b_andNot64 b_andNot64r b_andNot64l b_add64 b_add64r b_add64l b_sub64 b_sub64r b_sub64l b_mul64 b_mul64r b_mul64l b_eql64 b_eql64r b_eql64l b_neq64 b_neq64r b_neq64l b_lss64 b_lss64r b_lss64l b_leq64 b_leq64r b_leq64l b_gtr64 b_gtr64r b_gtr64l b_geq64 b_geq64r b_geq64l b_quo64r b_rem64r b_shl64r b_shr64r b_shl64l b_shr64l u_xor64 g_eql64 g_neq64 g_eql64' g_neq64' c_u8_u8 c_u8_u32 c_u8_u64 c_i_u8 c_u32_u8 c_u32_u32 c_u32_u64 c_i_u32 c_u64_u8 c_u64_u32 c_u64_u64 c_i_u64 c_u8_i c_u32_i
attribute [local go_sem ↓] ce8 ce32 ce64
attribute [local go_sem ↓] sliced_slp loadO25 storeO25 loadO44 storeO44 loadO35 loadO84 storeO84 buildO44 buildO25
/-- What Hold tells. -/
def Lad.holdErr (L : Lad) (n now : Int) : Int :=
  if tim now = false then 168
  else match L.pending.findIdx? (fun p => p.number == n) with
    | none => 164
    | some i => match L.pending[i]? with
      | none => 0
      | some x => if x.deadline ≤ now then 167 else 0
theorem found_at {l : List Pd} {n : Int} {i : Nat} (h : l.findIdx? (fun p => p.number == n) = some i) : ∃ x, l[i]? = some x := by
  obtain ⟨hi, _⟩ := List.findIdx?_eq_some_iff_getElem.1 h
  exact ⟨_, List.getElem?_eq_getElem hi⟩
set_option maxRecDepth 100000 in
theorem hold_no (B g : Nat) (v : Value) (L : Lad) (n now : Int) (w : World) (h : IsL w B g v L) (hl : L.pending.length ≤ 1048576) (he : L.holdErr n now ≠ 0) :
    Calls Try.prog 17 #[.pointer (some ⟨g, 0, none⟩), .int .i64 n, .int .i64 now] w fun e w' => e = .returned (.int .i64 (L.holdErr n now)) ∧ Mod [] w w' := by
  have hp := place_any B g v L n w h hl
  have htim := fun w1 => time_any now w1
  unfold Lad.holdErr at he ⊢
  by_cases ht : tim now = false
  · rw [if_pos ht]
    rw [ht] at htim
    have HP := Lib.hid hp
    have HTIM := Lib.hid htim
    clear hp htim ht h he
    go_enter Try.func17, Try.ntmps17
    go_wp2_with fail
    refine HP.out.mono ?_
    rintro e w5 ⟨rfl, m5⟩
    go_wp2_with fail
    refine (HTIM.out _).mono ?_
    rintro e w6 ⟨rfl, rfl⟩
    go_wp2_with fail
    go_ret
    exact ⟨rfl, m5⟩
  · rw [if_neg ht] at he ⊢
    have ht' : tim now = true := by cases h1 : tim now <;> simp_all
    rw [ht'] at htim
    have HTIM := Lib.hid htim
    cases hf : L.pending.findIdx? (fun p => p.number == n) with
    | none =>
      rw [place_no hf] at hp
      have HP := Lib.hid hp
      simp only
      clear hp htim ht ht' h he hf
      go_enter Try.func17, Try.ntmps17
      go_wp2_with fail
      refine HP.out.mono ?_
      rintro e w5 ⟨rfl, m5⟩
      go_wp2_with fail
      refine (HTIM.out _).mono ?_
      rintro e w6 ⟨rfl, rfl⟩
      go_wp2_with fail
      go_ret
      exact ⟨rfl, m5⟩
    | some i =>
      obtain ⟨x, hx⟩ := found_at hf
      rw [place_yes hf] at hp
      have HP := Lib.hid hp
      rw [hf] at he
      simp only [hx] at he ⊢
      have hd : x.deadline ≤ now := by
        by_cases hd : x.deadline ≤ now
        · exact hd
        · rw [if_neg hd] at he; exact absurd rfl he
      rw [if_pos hd]
      have hdd : decide (x.deadline ≤ now) = true := by simpa using hd
      obtain ⟨b, cap, hv, hrg, hcap, _⟩ := own_at h i x hx
      have hil := (List.getElem?_eq_some_iff.1 hx).1
      subst hv
      have H := Lib.hid h
      have HRG := Lib.hid hrg
      clear hp htim ht ht' h he hf hx hd hrg
      go_enter Try.func17, Try.ntmps17
      go_wp2_with fail
      refine HP.out.mono ?_
      rintro e w5 ⟨rfl, m5⟩
      have hc := (H.out.mod0 m5).c66
      have hc88 := range_cell (range_mod m5 HRG.out (by simp)) 88 _ x.c88
      go_wp2_with fail
      refine (HTIM.out _).mono ?_
      rintro e w6 ⟨rfl, rfl⟩
      go_wp2_with fail
      go_ret
      exact ⟨rfl, m5⟩
/-- What Release tells. -/
def Lad.relErr (L : Lad) (n : Int) : Int :=
  match L.pending.findIdx? (fun p => p.number == n) with
    | none => 164
    | some i => match L.pending[i]? with
      | none => 0
      | some x => if x.duels = 0 then 166 else 0
set_option maxRecDepth 100000 in
theorem release_no (B g : Nat) (v : Value) (L : Lad) (n : Int) (w : World) (h : IsL w B g v L) (hl : L.pending.length ≤ 1048576) (he : L.relErr n ≠ 0) :
    Calls Try.prog 18 #[.pointer (some ⟨g, 0, none⟩), .int .i64 n] w fun e w' => e = .returned (.int .i64 (L.relErr n)) ∧ Mod [] w w' := by
  have hp := place_any B g v L n w h hl
  unfold Lad.relErr at he ⊢
  cases hf : L.pending.findIdx? (fun p => p.number == n) with
  | none =>
    rw [place_no hf] at hp
    have HP := Lib.hid hp
    simp only
    clear hp h he hf
    go_enter Try.func18, Try.ntmps18
    go_wp2_with fail
    refine HP.out.mono ?_
    rintro e w5 ⟨rfl, m5⟩
    go_wp2_with fail
    go_ret
    exact ⟨rfl, m5⟩
  | some i =>
    obtain ⟨x, hx⟩ := found_at hf
    rw [place_yes hf] at hp
    have HP := Lib.hid hp
    rw [hf] at he
    simp only [hx] at he ⊢
    have hd : x.duels = 0 := by
      by_cases hd : x.duels = 0
      · exact hd
      · rw [if_neg hd] at he; exact absurd rfl he
    rw [if_pos hd]
    obtain ⟨b, cap, hv, hrg, hcap, _⟩ := own_at h i x hx
    have hil := (List.getElem?_eq_some_iff.1 hx).1
    have hc0 := x.c89
    rw [hd] at hc0
    subst hv
    have H := Lib.hid h
    have HRG := Lib.hid hrg
    have HC := Lib.hid hc0
    clear hp h he hf hx hd hrg hc0
    go_enter Try.func18, Try.ntmps18
    go_wp2_with fail
    refine HP.out.mono ?_
    rintro e w5 ⟨rfl, m5⟩
    have hc := (H.out.mod0 m5).c66
    have hc89 := range_cell (range_mod m5 HRG.out (by simp)) 89 _ HC.out
    go_wp2_with fail
    go_ret
    exact ⟨rfl, m5⟩
set_option maxRecDepth 100000 in
theorem release_yes (B g : Nat) (v : Value) (L : Lad) (n : Int) (w : World) (h : IsL w B g v L) (hl : L.pending.length ≤ 1048576) (i : Nat) (x : Pd) (hf : L.pending.findIdx? (fun p => p.number == n) = some i) (hx : L.pending[i]? = some x)
    (hb : 1 ≤ x.duels ∧ x.duels ≤ 4611686018427387904) :
    Calls Try.prog 18 #[.pointer (some ⟨g, 0, none⟩), .int .i64 n] w fun e w' => e = .returned (.int .i64 0) ∧ IsL w' B g v { L with pending := L.pending.set i { x with duels := x.duels - 1 } } ∧ Mod (foot g v) w w' := by
  have hp := place_any B g v L n w h hl
  rw [place_yes hf] at hp
  have HP := Lib.hid hp
  obtain ⟨b, cap, hv, hrg, hcap, C, hbk, hC⟩ := own_at h i x hx
  have hil := (List.getElem?_eq_some_iff.1 hx).1
  subst hv
  have H := Lib.hid h
  have HX := Lib.hid hx
  have HRG := Lib.hid hrg
  have HBK := Lib.hid hbk
  obtain ⟨hb0, hb1⟩ := hb
  have hdd : (x.duels == 0) = false := by simp; omega
  clear hp h hf hx hrg hbk
  go_enter Try.func18, Try.ntmps18
  go_wp2_with fail
  refine HP.out.mono ?_
  rintro e w5 ⟨rfl, m5⟩
  have h5 := H.out.mod0 m5
  have H5 := Lib.hid h5
  have hc := h5.c66
  have hr5 := range_mod m5 HRG.out (by simp)
  have hc89 := range_cell hr5 89 _ x.c89
  have hf89 : w5.frozen? ⟨b, i * 90 + 89, none⟩ = false := frozen_blk (m5.get0 HBK.out) _
  have HM5 := Lib.hid m5
  clear h5 hr5 m5
  go_wp2_with fail
  go_ret
  exact ⟨rfl, H5.out.duels i x HX.out (x.duels - 1), (HM5.out.mono (fun _ hx => by cases hx)).setCell (.inl (mem_foot.2 (.inr rfl))) _⟩
set_option maxRecDepth 100000 in
theorem drop_no (B g : Nat) (v : Value) (L : Lad) (n : Int) (w : World) (h : IsL w B g v L) (hl : L.pending.length ≤ 1048576) (hf : L.pending.findIdx? (fun p => p.number == n) = none) :
    Calls Try.prog 16 #[.pointer (some ⟨g, 0, none⟩), .int .i64 n] w fun e w' => e = .returned (.tuple #[.slice none 0 0, .int .i64 164]) ∧ Mod [] w w' := by
  have hp := place_any B g v L n w h hl
  rw [place_no hf] at hp
  have HP := Lib.hid hp
  clear hp h hf
  go_enter Try.func16, Try.ntmps16
  go_wp2_with fail
  refine HP.out.mono ?_
  rintro e w5 ⟨rfl, m5⟩
  go_wp2_with fail
  go_ret2
  exact ⟨rfl, m5⟩
/-- Drop hands back what it takes away. -/
def DropP (B g : Nat) (v : Value) (L : Lad) (i : Nat) (w : World) (e : Ending) (w' : World) : Prop :=
  ∃ r v', e = .returned (.tuple #[r, .int .i64 0]) ∧ OwnP w' w.heap.size r (L.pending.drop i) ∧ IsL w' B g v' { L with pending := L.pending.take i } ∧ Mod (foot g v) w w' ∧ v'.ownBlock = v.ownBlock
set_option maxRecDepth 100000 in
theorem drop_yes (B g : Nat) (v : Value) (L : Lad) (n : Int) (w : World) (h : IsL w B g v L) (hl : L.pending.length ≤ 1048576) (i : Nat) (x : Pd) (hf : L.pending.findIdx? (fun p => p.number == n) = some i) (hx : L.pending[i]? = some x) :
    Calls Try.prog 16 #[.pointer (some ⟨g, 0, none⟩), .int .i64 n] w (DropP B g v L i w) := by
  have hp := place_any B g v L n w h hl
  rw [place_yes hf] at hp
  have HP := Lib.hid hp
  obtain ⟨b, cap, hv, hrg, hcap, _⟩ := own_at h i x hx
  have hil := (List.getElem?_eq_some_iff.1 hx).1
  have hic : i ≤ cap := by omega
  have hfr := h.own.front Pd.len i (by omega)
  obtain ⟨p, cap', hrv, hfr⟩ := hfr
  rw [hv] at hrv
  injection hrv with e1 e2 e3
  subst e1 e3
  obtain ⟨p', cap2, hv2, hrd, _⟩ := h.own.rd
  rw [hv] at hv2
  injection hv2 with e1 e2' e3
  subst e1 e3
  subst hv
  have H := Lib.hid h
  have HRD := Lib.hid hrd
  have HFR := Lib.hid hfr
  clear hp h hf hx hrg hfr hrd e2 e2'
  go_enter Try.func16, Try.ntmps16
  go_wp2_with fail
  refine HP.out.mono ?_
  rintro e w5 ⟨rfl, m5⟩
  have h5 := H.out.mod0 m5
  have hc := h5.c66
  go_wp2_with fail
  have hcl := clone_any (slp (some ⟨b, 0, none⟩) i cap 90) (cap - i) (L.pending.length - i) (L.pending.drop i) w5 ((HRD.out.mod0 m5).drop Pd.len i (by omega)) (by simp) (by simp; omega)
  refine hcl.mono ?_
  rintro e w6 ⟨r, rfl, ho6, m6⟩
  have h6 := h5.mod0 m6
  have hc6 := h6.c66
  have hf6 := h6.frz 66
  have M6 := m5.trans0 m6
  have HL := Lib.hid (IsL.setPend h6.blk h6.base (.slice (some ⟨b, 0, none⟩) i cap) (L.pending.take i) (HFR.out.mod0 M6))
  have HM6 := Lib.hid M6
  have HO6 := Lib.hid ho6
  have HS5 := Lib.hid m5.size
  have hg6 := h6.lt
  clear h5 h6 m5 m6 M6 ho6 hcl hc
  go_wp2_with fail
  go_ret2
  refine ⟨r, _, rfl, ?_, HL.out, Mod.setCell (p := ⟨g, 66, none⟩) (HM6.out.mono (fun _ hx => by cases hx)) (.inl (mem_foot.2 (.inl rfl))) _, rfl⟩
  have hgw := H.out.lt
  have hs5 := HS5.out
  refine (HO6.out.mod ((Mod.refl [g] w6).setCell (.inl (by simp)) _) (fun y hy hv => ?_)).mono hs5
  rw [List.mem_singleton] at hy
  subst hy
  have := HO6.out.row y hv
  omega
/-- A copy of a ladder. -/
def CopyP (B : Nat) (L : Lad) (w : World) (e : Ending) (w' : World) : Prop := ∃ g' v', e = .returned (.pointer (some ⟨g', 0, none⟩)) ∧ w.heap.size ≤ g' ∧ IsL w' B g' v' L ∧ (∀ x, v'.ownBlock = some x → w.heap.size ≤ x) ∧ Mod [] w w'
theorem loadLd {w : World} {B g : Nat} {v : Value} {L : Lad} (h : IsL w B g v L) : (LoadO 84 (.pointer (some ⟨g, 0, none⟩))).run Try.prog w = .ok (.agg (lcells v L).toArray) w :=
  loadO_row h.blk Try.underlying84 rfl (by simp [lcells_length, infoLd'])
theorem lcells_one (v : Value) (L : Lad) (hv : v.oneCell' = true) : ∀ u ∈ lcells v L, u.oneCell' = true := by
  intro u hu
  simp only [lcells, List.mem_append, List.mem_cons, List.not_mem_nil, or_false] at hu
  rcases hu with hu | rfl | rfl | rfl | rfl
  · exact L.confirmed.one u hu
  · exact hv
  · rfl
  · rfl
  · rfl
set_option maxRecDepth 100000 in
theorem copy_any (B g : Nat) (v : Value) (L : Lad) (w : World) (h : IsL w B g v L) (hl : L.pending.length ≤ 1048576) (hB : B ≤ w.heap.size) :
    Calls Try.prog 21 #[.pointer (some ⟨g, 0, none⟩)] w (CopyP B L w) := by
  obtain ⟨p, cap, hv, hr, _⟩ := h.own.rd
  subst hv
  have H := Lib.hid h
  have HR := Lib.hid hr
  have hL1 := loadLd h
  have hS := fun (Z : Array Value) (hZ : Z.size = 70) => storeO_row (P := Try.prog) (ty := 84) (cells := (lcells (.slice p L.pending.length cap) L).toArray) (hp_new w (.cells Z 84) _ rfl) (by simp [hZ, lcells_length]) (by simp [lcells_length, infoLd']) (by simpa using lcells_one (.slice p L.pending.length cap) L rfl)
  have hS2 : ∀ (Z : Array Value), Z.size = 70 → (StoreO 84 (.pointer (some ⟨w.heap.size, 0, none⟩)) (.agg (lcells (.slice p L.pending.length cap) L).toArray)).run Try.prog (w.alloc (.cells Z 84)) = .ok () (w.alloc (.cells (lcells (.slice p L.pending.length cap) L).toArray 84)) := fun Z hZ => by
    have := hS Z hZ
    rw [setRow_alloc_at _ _ _ _ _ rfl] at this
    exact this
  have hz : Try.zeroCells84.size = 70 := by kernel_rfl
  have hS3 := hS2 _ hz
  have hc := fun (o : Obj) => (h.mod0 ((Mod.refl [] w).alloc o)).c66
  clear h hr hS hS2 hz
  go_enter Try.func21, Try.ntmps21
  go_wp2_with fail
  clear hL1 hS3
  refine (clone_any p cap L.pending.length L.pending _ (HR.out.mod0 ((Mod.refl [] w).alloc _)) rfl hl).mono ?_
  rintro e w6 ⟨r, rfl, ho6, m6⟩
  have hblk := m6.get0 (hp_new w (.cells (lcells (.slice p L.pending.length cap) L).toArray 84) _ rfl)
  obtain ⟨p6, cap6, hv6, _⟩ := ho6.rd
  have hrow : ∀ x, r.ownBlock = some x → w.heap.size ≤ x := fun x hx => by have := ho6.row x hx; simp at this; omega
  have HL := Lib.hid (IsL.setPend hblk hB r L.pending (ho6.mono (by simp; omega)))
  have hc6 : w6.cell? ⟨w.heap.size, 66, none⟩ = some (.slice p L.pending.length cap) := by rw [cell_blk hblk, List.getElem?_toArray]; exact lcells_tail _ _ 0
  have hf6 : w6.frozen? ⟨w.heap.size, 66, none⟩ = false := frozen_blk hblk 66
  have HM := Lib.hid (((Mod.refl [] w).alloc (.cells (lcells (.slice p L.pending.length cap) L).toArray 84)).trans0 m6)
  have HROW := Lib.hid hrow
  clear hblk ho6 m6 hrow hc
  subst hv6
  go_wp2_with fail
  go_ret
  exact ⟨_, _, rfl, Nat.le_refl _, HL.out, HROW.out, HM.out.setCell (.inr (Nat.le_refl _)) _⟩
end Go.Proofs.Ytmjdfglidfdkaaa
