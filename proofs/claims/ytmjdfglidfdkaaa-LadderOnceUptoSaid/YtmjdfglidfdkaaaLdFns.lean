/- New, Pending, Confirmed, Top, place of a ladder. Condition: numbers in their bounds. -/
import Derived.Test.YtmjdfglidfdkaaaLdMem
namespace Go.Proofs.Ytmjdfglidfdkaaa
open Go.RowKit
attribute [local go_sem high] one8 st8 cm8 b_and8 b_and8r b_and8l b_or8 b_or8r b_or8l b_xor8 b_xor8r b_xor8l b_andNot8 b_andNot8r b_andNot8l b_add8 b_add8r b_add8l b_sub8 b_sub8r b_sub8l b_mul8 b_mul8r b_mul8l b_eql8 b_eql8r b_eql8l b_neq8 b_neq8r b_neq8l b_lss8 b_lss8r b_lss8l b_leq8 b_leq8r b_leq8l b_gtr8 b_gtr8r b_gtr8l b_geq8 b_geq8r b_geq8l b_quo8r b_rem8r b_shl8r b_shr8r b_shl8l b_shr8l u_xor8 g_eql8 g_neq8 g_eql8' g_neq8' one32 st32 cm32 b_and32 b_and32r b_and32l b_or32 b_or32r b_or32l b_xor32 b_xor32r b_xor32l b_andNot32 b_andNot32r b_andNot32l b_add32 b_add32r b_add32l b_sub32 b_sub32r b_sub32l b_mul32 b_mul32r b_mul32l b_eql32 b_eql32r b_eql32l b_neq32 b_neq32r b_neq32l b_lss32 b_lss32r b_lss32l b_leq32 b_leq32r b_leq32l b_gtr32 b_gtr32r b_gtr32l b_geq32 b_geq32r b_geq32l b_quo32r b_rem32r b_shl32r b_shr32r b_shl32l b_shr32l u_xor32 g_eql32 g_neq32 g_eql32' g_neq32' one64 st64 cm64 b_and64 b_and64r b_and64l b_or64 b_or64r b_or64l b_xor64 b_xor64r b_xor64l b_andNot64 b_andNot64r b_andNot64l b_add64 b_add64r b_add64l b_sub64 b_sub64r b_sub64l b_mul64 b_mul64r b_mul64l b_eql64 b_eql64r b_eql64l b_neq64 b_neq64r b_neq64l b_lss64 b_lss64r b_lss64l b_leq64 b_leq64r b_leq64l b_gtr64 b_gtr64r b_gtr64l b_geq64 b_geq64r b_geq64l b_quo64r b_rem64r b_shl64r b_shr64r b_shl64l b_shr64l u_xor64 g_eql64 g_neq64 g_eql64' g_neq64' c_u8_u8 c_u8_u32 c_u8_u64 c_i_u8 c_u32_u8 c_u32_u32 c_u32_u64 c_i_u32 c_u64_u8 c_u64_u32 c_u64_u64 c_i_u64 c_u8_i c_u32_i
attribute [local go_sem ↓] ce8 ce32 ce64
attribute [local go_sem ↓] sliced_slp loadO25 storeO25 loadO44 storeO44 loadO35 loadO84 storeO84
theorem loadCm {w : World} {b o : Nat} {c : Cm} (h : w.rangeAt b o c.cells) : (LoadO 25 (.pointer (some ⟨b, o, none⟩))).run Try.prog w = .ok (cv c) w :=
  loadO_mid h Try.underlying25 rfl (by rw [c.len]; exact infoCm')
theorem loadPd {w : World} {b o : Nat} {p : Pd} (h : w.rangeAt b o p.cells) : (LoadO 44 (.pointer (some ⟨b, o, none⟩))).run Try.prog w = .ok (pv p) w :=
  loadO_mid h Try.underlying44 rfl (by rw [p.len]; exact infoPd')
theorem pending_any (B g : Nat) (v : Value) (L : Lad) (w : World) (h : IsL w B g v L) (hl : L.pending.length ≤ 1048576) :
    Calls Try.prog 12 #[.pointer (some ⟨g, 0, none⟩)] w (CloneP w L.pending) := by
  have hc := h.c66
  obtain ⟨p, cap, rfl, hr, _⟩ := h.own.rd
  have HR := Lib.hid hr
  clear h hr
  go_enter Try.func12, Try.ntmps12
  go_wp2_with (go_at_call 38; refine (clone_any p cap L.pending.length L.pending _ HR.out rfl hl).mono ?_; rintro e w' ⟨v', rfl, ho, hm⟩; have HO := Lib.hid ho; have HM := Lib.hid hm; clear ho hm)
  go_ret
  exact ⟨_, rfl, HO.out, HM.out⟩
/-- A commit goes into the variable that has just been made for it. -/
theorem storeNewCm (w : World) (c : Cm) (Z : Array Value) (hZ : Z.size = 66) : (StoreO 25 (.pointer (some ⟨w.heap.size, 0, none⟩)) (cv c)).run Try.prog (w.alloc (.cells Z 25)) = .ok () (w.alloc (.cells c.cells.toArray 25)) := by
  have h := storeO_row (P := Try.prog) (ty := 25) (cells := c.cells.toArray) (hp_new w (.cells Z 25) _ rfl) (by simp [hZ, c.len]) (by simp [c.len, infoCm']) (by simpa using c.one)
  rw [setRow_alloc_at _ _ _ _ _ rfl] at h
  exact h
theorem storeNewPd (w : World) (c : Pd) (Z : Array Value) (hZ : Z.size = 90) : (StoreO 44 (.pointer (some ⟨w.heap.size, 0, none⟩)) (pv c)).run Try.prog (w.alloc (.cells Z 44)) = .ok () (w.alloc (.cells c.cells.toArray 44)) := by
  have h := storeO_row (P := Try.prog) (ty := 44) (cells := c.cells.toArray) (hp_new w (.cells Z 44) _ rfl) (by simp [hZ, c.len]) (by simp [c.len, infoPd']) (by simpa using c.one)
  rw [setRow_alloc_at _ _ _ _ _ rfl] at h
  exact h
theorem results_cm {fn : Func} {p : Tmp} (h : fn.results = #[.cell p 25]) (tmps : Array Value) (w : World) (b : Nat) (c : Cm) (fr : Nat × Nat)
    (hp : tmps.getD p undef = .pointer (some ⟨b, 0, none⟩)) (hg : w.heap[b]? = some (.cells c.cells.toArray 25 fr)) : (results fn tmps).run Try.prog w = .ok (cv c) w :=
  results_cell_row h tmps w b _ _ fr _ hp hg Try.underlying25 rfl (by simp [c.len, infoCm'])
set_option maxRecDepth 100000 in
theorem confirmed_any (B g : Nat) (v : Value) (L : Lad) (w : World) (h : IsL w B g v L) :
    Calls Try.prog 13 #[.pointer (some ⟨g, 0, none⟩)] w fun e w' => e = .returned (cv L.confirmed) ∧ Mod [] w w' := by
  have hL := fun (o : Obj) => loadCm (range_mod ((Mod.refl [] w).alloc o) h.conf (by simp))
  have hS := storeNewCm w L.confirmed
  clear h
  go_enter Try.func13, Try.ntmps13
  go_wp2_with fail
  exact bodyPost_ret (results_cm rfl _ _ _ _ _ rfl (hp_new _ _ _ rfl)) rfl ⟨rfl, (Mod.refl _ _).alloc _⟩
set_option maxRecDepth 100000 in
theorem ahead_zero (B g : Nat) (v : Value) (L : Lad) (w : World) (h : IsL w B g v L) :
    Calls Try.prog 60 #[.pointer (some ⟨g, 0, none⟩), .int .i64 0] w fun e w' => e = .returned (cv L.confirmed) ∧ Mod [] w w' := by
  have hL := fun (o : Obj) => loadCm (range_mod ((Mod.refl [] w).alloc o) h.conf (by simp))
  have hS := storeNewCm w L.confirmed
  clear h
  go_enter Try.func60, Try.ntmps60
  go_wp2_with fail
  exact bodyPost_ret (results_cm rfl _ _ _ _ _ rfl (hp_new _ _ _ rfl)) rfl ⟨rfl, (Mod.refl _ _).alloc _⟩
theorem pd_commit {w : World} {b o : Nat} {x : Pd} (h : w.rangeAt b o x.cells) : w.rangeAt b (o + 1) x.commit.cells := by
  intro j u hu
  have := h (1 + j) u (x.cc j u hu)
  rw [← Nat.add_assoc] at this
  exact this
set_option maxRecDepth 100000 in
theorem ahead_at (B g : Nat) (v : Value) (L : Lad) (w : World) (h : IsL w B g v L) (i : Nat) (x : Pd) (hx : L.pending[i]? = some x) (z : Int) (hz : z = (i : Int) + 1) (hl : L.pending.length ≤ 1048576) :
    Calls Try.prog 60 #[.pointer (some ⟨g, 0, none⟩), .int .i64 z] w fun e w' => e = .returned (cv x.commit) ∧ Mod [] w w' := by
  subst hz
  have hc := fun (o : Obj) => (h.mod0 ((Mod.refl [] w).alloc o)).c66
  obtain ⟨p, cap, rfl, hr, _⟩ := h.own.rd
  obtain ⟨b, o, rfl, hrg⟩ := hr.elem Pd.len i x hx
  have hi := (List.getElem?_eq_some_iff.1 hx).1
  have hL := fun (o' : Obj) => loadCm (range_mod ((Mod.refl [] w).alloc o') (pd_commit hrg) (by simp))
  have hS := storeNewCm w x.commit
  have hne : ((i : Int) + 1 == 0) = false := by simp; omega
  clear h hr hrg hx
  go_enter Try.func60, Try.ntmps60
  go_wp2_with fail
  exact bodyPost_ret (results_cm rfl _ _ _ _ _ rfl (hp_new _ _ _ rfl)) rfl ⟨rfl, (Mod.refl _ _).alloc _⟩
set_option maxRecDepth 100000 in
/-- The question that IndexFunc asks. -/
theorem asks_any (x : Pd) (b : Nat) (n : Int) (w : World) (hb : w.cell? ⟨b, 0, none⟩ = some (.int .i64 n)) :
    Calls Try.prog 62 #[pv x, .pointer (some ⟨b, 0, none⟩)] w fun e w' => e = .returned (.bool (x.number == n)) ∧ Mod [] w w' := by
  have hbl : b < w.heap.size := block_lt_of_cell hb
  have hc := fun (o : Obj) => (World.cell?_of_block (a := ⟨b, 0, none⟩) (((Mod.refl [] w).alloc o).block b hbl (by simp))).trans hb
  have hx : (w.alloc (.cells x.cells.toArray 44)).cell? ⟨w.heap.size, 0, none⟩ = some (.int .i64 x.number) := by
    rw [cell_blk (hp_new _ _ _ rfl), List.getElem?_toArray]; exact x.c0
  unfold pv
  go_enter Try.func62, Try.ntmps62
  go_wp2_with fail
  go_ret
  exact ⟨rfl, (Mod.refl _ _).alloc _⟩
theorem place_none (l : List Pd) (n : Int) (h : ∀ x ∈ l, x.number ≠ n) : l.findIdx? (fun p => p.number == n) = none := by
  rw [List.findIdx?_eq_none_iff]
  intro x hx
  simpa using h x hx
theorem place_some (l : List Pd) (n : Int) (k : Nat) (x : Pd) (hx : l[k]? = some x) (hn : x.number = n) (h : ∀ y ∈ l.take k, y.number ≠ n) : l.findIdx? (fun p => p.number == n) = some k := by
  obtain ⟨hk, hxe⟩ := List.getElem?_eq_some_iff.1 hx
  rw [List.findIdx?_eq_some_iff_getElem]
  refine ⟨hk, by simpa [hxe] using hn, fun j hj => ?_⟩
  have := h l[j] (List.mem_take_iff_getElem.2 ⟨j, by omega, rfl⟩)
  simpa using this
def Found (l : List Pd) (n : Int) : Int := match l.findIdx? (fun p => p.number == n) with | none => -1 | some i => i
theorem index_any (p : Option Addr) (cap : Nat) (l : List Pd) (b : Nat) (n : Int) (w : World) (hr : RdP w p cap l) (hb : w.cell? ⟨b, 0, none⟩ = some (.int .i64 n)) (hl : l.length ≤ 1048576) :
    Calls Try.prog 61 #[.slice p l.length cap, .func (.func 62) #[] #[.pointer (some ⟨b, 0, none⟩)]] w fun e w' => e = .returned (.int .i64 (Found l n)) ∧ Mod [] w w' := by
  have HR := Lib.hid hr
  have HB := Lib.hid hb
  have hbl : b < w.heap.size := block_lt_of_cell hb
  clear hr hb
  go_enter Try.func61, Try.ntmps61
  go_wp2_with fail
  go_loopw [8] (fun iv wr => ∃ k : Nat, k ≤ l.length ∧ iv = .int .i64 k ∧ (∀ x ∈ l.take k, x.number ≠ n) ∧ Mod [] w wr) (fun iv _ => l.length - (intOf iv).toNat)
  case atStart => exact ⟨0, by omega, rfl, by simp, Mod.refl _ _⟩
  case round =>
    obtain ⟨k, hk, rfl, hno, hm⟩ := hrel
    have HNO := Lib.hid hno
    clear hno
    by_cases hlt : k < l.length
    · obtain ⟨x, hxk⟩ : ∃ x, l[k]? = some x := ⟨l[k], List.getElem?_eq_getElem hlt⟩
      obtain ⟨b', o', rfl, hrg⟩ := HR.out.elem Pd.len k x hxk
      have hL := loadPd (range_mod hm hrg (by simp))
      have hask := asks_any x b n wr ((World.cell?_of_block (a := ⟨b, 0, none⟩) (hm.block b hbl (by simp))).trans HB.out)
      have HXK := Lib.hid hxk
      clear hrg hxk
      by_cases hn : x.number = n
      · rw [show (x.number == n) = true by simpa using hn] at hask
        have HN := Lib.hid hn
        have HA := Lib.hid hask
        clear hn hask
        go_wp2_with (go_at_call 62; refine HA.out.mono ?_; rintro e w5 ⟨rfl, m5⟩)
        go_ret
        refine ⟨?_, hm.trans0 m5⟩
        unfold Found
        rw [place_some l n k x HXK.out HN.out HNO.out]
        rfl
      · rw [show (x.number == n) = false by simpa using hn] at hask
        have HN := Lib.hid hn
        have HA := Lib.hid hask
        clear hn hask
        go_wp2_with (go_at_call 62; refine HA.out.mono ?_; rintro e w5 ⟨rfl, m5⟩)
        go_roundw
        case rel =>
          refine ⟨k + 1, by omega, by go_num, ?_, hm.trans0 m5⟩
          intro y hy
          rw [List.take_add_one, HXK.out] at hy
          rcases List.mem_append.1 hy with hy | hy
          · exact HNO.out y hy
          · simp at hy; subst hy; exact HN.out
        case measure => simp [intOf]; omega
    · have hd : decide ((k : Int) < (l.length : Int)) = false := by simp; omega
      go_wp2_with fail
      go_ret
      refine ⟨?_, hm⟩
      unfold Found
      rw [place_none l n (by have := HNO.out; rwa [List.take_of_length_le (by omega)] at this)]
      rfl
theorem place_any (B g : Nat) (v : Value) (L : Lad) (n : Int) (w : World) (h : IsL w B g v L) (hl : L.pending.length ≤ 1048576) :
    Calls Try.prog 41 #[.pointer (some ⟨g, 0, none⟩), .int .i64 n] w fun e w' => e = .returned (.int .i64 (L.place n)) ∧ Mod [] w w' := by
  have hc := fun (o : Obj) => (h.mod0 ((Mod.refl [] w).alloc o)).c66
  obtain ⟨p, cap, rfl, hr, _⟩ := h.own.rd
  have HR := Lib.hid hr
  clear h hr
  go_enter Try.func41, Try.ntmps41
  go_wp2_with (go_at_call 61; refine (index_any p cap L.pending w.heap.size n _ (HR.out.mod0 ((Mod.refl [] w).alloc _)) (cell_blk (hp_new _ _ _ rfl) 0) hl).mono ?_; rintro e w' ⟨rfl, hm⟩)
  go_ret
  exact ⟨rfl, ((Mod.refl _ _).alloc _).trans0 hm⟩
set_option maxRecDepth 100000 in
theorem top_any (B g : Nat) (v : Value) (L : Lad) (w : World) (h : IsL w B g v L) (hl : L.pending.length ≤ 1048576) :
    Calls Try.prog 39 #[.pointer (some ⟨g, 0, none⟩)] w fun e w' => e = .returned (cv L.top) ∧ Mod [] w w' := by
  have hc := fun (o : Obj) => (h.mod0 ((Mod.refl [] w).alloc o)).c66
  obtain ⟨p, cap, hv, _⟩ := h.own.rd
  rw [hv] at hc
  have HI := fun (o : Obj) => h.mod0 ((Mod.refl [] w).alloc o)
  have hS := fun (w1 : World) (b : Nat) (Z : Array Value) (hZ : Z.size = 66) (hb : w1.heap[b]? = some (.cells Z 25 (0, 0))) => storeO_row (P := Try.prog) (w := w1) (b := b) (ty := 25) (cells := L.top.cells.toArray) hb (by simp [hZ, L.top.len]) (by simp [L.top.len, infoCm']) (by simpa using L.top.one)
  obtain ⟨T, hT⟩ : ∃ T, T = L.top := ⟨_, rfl⟩
  have key : ∀ (w1 : World) (z : Int), z = (L.pending.length : Int) → IsL w1 B g v L → Calls Try.prog 60 #[.pointer (some ⟨g, 0, none⟩), .int .i64 z] w1 fun e w' => e = .returned (cv T) ∧ Mod [] w1 w' := by
    intro w1 z hz h1
    subst hz
    rcases hp : L.pending.getLast? with _ | x
    · have he : L.pending = [] := by simpa using hp
      have ht : T = L.confirmed := by rw [hT]; unfold Lad.top; rw [hp]
      rw [he, ht]
      exact ahead_zero B g v L w1 h1
    · have ht : T = x.commit := by rw [hT]; unfold Lad.top; rw [hp]
      rw [ht]
      have hne : L.pending ≠ [] := by rintro he; rw [he] at hp; cases hp
      have hpos : 0 < L.pending.length := List.length_pos_iff.2 hne
      refine ahead_at B g v L w1 h1 (L.pending.length - 1) x ?_ _ (by omega) hl
      rw [← List.getLast?_eq_getElem?]; exact hp
  have KEY := Lib.hid key
  rw [← hT] at hS ⊢
  clear key h hT hv
  go_enter Try.func39, Try.ntmps39
  go_wp2_with fail
  refine (KEY.out _ _ rfl (HI _)).mono ?_
  rintro e w5 ⟨rfl, m5⟩
  have hZ := m5.get0 (hp_new _ _ _ rfl)
  have hs : (StoreO 25 (.pointer (some ⟨w.heap.size, 0, none⟩)) (cv T)).run Try.prog w5 = .ok () (w5.setRow w.heap.size T.cells.toArray) := hS w5 _ _ (by kernel_rfl) hZ
  have HZ := Lib.hid hZ
  clear hS hZ hc HI
  go_wp2_with fail
  exact bodyPost_ret (results_cm rfl _ _ _ _ _ rfl (hp_setRow HZ.out)) rfl ⟨rfl, (((Mod.refl _ _).alloc _).trans0 m5).setRow (.inr (Nat.le_refl _)) _⟩
/-- The pending one at a place. -/
theorem getPd {w : World} {B g : Nat} {v : Value} {L : Lad} (h : IsL w B g v L) (i : Nat) (x : Pd) (hx : L.pending[i]? = some x) : ∃ b o cap, v = .slice (some ⟨b, o, none⟩) L.pending.length cap ∧ w.rangeAt b (o + i * 90) x.cells ∧ L.pending.length ≤ cap := by
  obtain ⟨p, cap, hv, hr, _⟩ := h.own.rd
  obtain ⟨b, o, rfl, hrg⟩ := hr.elem Pd.len i x hx
  exact ⟨b, o, cap, hv, hrg, hr.le⟩
end Go.Proofs.Ytmjdfglidfdkaaa
