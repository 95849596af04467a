/- DigestCuts. Conditions: the table of the steps lies in its variable; at most 2^20 bytes. -/
import Derived.Test.YtmjdfglidfdkaaaDoorLawParts
import Derived.Test.YtmjdfglidfdkaaaDoorLawApart
import Derived.Test.YtmjdfglidfdkaaaDoorLawBehind
namespace Go.Proofs.YtmjdfglidfdkaaaDoor
open Go.RowKit
attribute [local go_sem high] one8 st8 cm8 b_and8 b_and8r b_and8l b_or8 b_or8r b_or8l b_xor8 b_xor8r b_xor8l b_andNot8 b_andNot8r b_andNot8l b_add8 b_add8r b_add8l b_sub8 b_sub8r b_sub8l b_mul8 b_mul8r b_mul8l b_eql8 b_eql8r b_eql8l b_neq8 b_neq8r b_neq8l b_lss8 b_lss8r b_lss8l b_leq8 b_leq8r b_leq8l b_gtr8 b_gtr8r b_gtr8l b_geq8 b_geq8r b_geq8l b_quo8r b_rem8r b_shl8r b_shr8r b_shl8l b_shr8l u_xor8 g_eql8 g_neq8 g_eql8' g_neq8' one32 st32 cm32 b_and32 b_and32r b_and32l b_or32 b_or32r b_or32l b_xor32 b_xor32r b_xor32l b_andNot32 b_andNot32r b_andNot32l b_add32 b_add32r b_add32l b_sub32 b_sub32r b_sub32l b_mul32 b_mul32r b_mul32l b_eql32 b_eql32r b_eql32l b_neq32 b_neq32r b_neq32l b_lss32 b_lss32r b_lss32l b_leq32 b_leq32r b_leq32l b_gtr32 b_gtr32r b_gtr32l b_geq32 b_geq32r b_geq32l b_quo32r b_rem32r b_shl32r b_shr32r b_shl32l b_shr32l u_xor32 g_eql32 g_neq32 g_eql32' g_neq32' one64 st64 cm64 b_and64 b_and64r b_and64l b_or64 b_or64r b_or64l b_xor64 b_xor64r b_xor64l b_andNot64 b_andNot64r b_andNot64l b_add64 b_add64r b_add64l b_sub64 b_sub64r b_sub64l b_mul64 b_mul64r b_mul64l b_eql64 b_eql64r b_eql64l b_neq64 b_neq64r b_neq64l b_lss64 b_lss64r b_lss64l b_leq64 b_leq64r b_leq64l b_gtr64 b_gtr64r b_gtr64l b_geq64 b_geq64r b_geq64l b_quo64r b_rem64r b_shl64r b_shr64r b_shl64l b_shr64l u_xor64 g_eql64 g_neq64 g_eql64' g_neq64' c_u8_u8 c_u8_u32 c_u8_u64 c_i_u8 c_u32_u8 c_u32_u32 c_u32_u64 c_i_u32 c_u64_u8 c_u64_u32 c_u64_u64 c_i_u64 c_u8_i c_u32_i
attribute [local go_sem ↓] ce8 ce32 ce64
attribute [local go_sem ↓] loadO26 storeO26 sliced_slp
attribute [local irreducible] compress hst laidOf fin refOf bitsOf
/-- y, in a block of its own. -/
def TwinAt (w : World) (y : SlR) : Prop := y.cap = y.d.length ∧ ∃ h, y.p = some ⟨h, 0, none⟩ ∧ w.heap[h]? = some (.cells (y.d.map V8).toArray 5 (0, 0))
theorem TwinAt.rd {w : World} {y : SlR} (h : TwinAt w y) : Rd V8 w y.p y.cap y.d := by
  obtain ⟨h0, g, h1, h2⟩ := h
  rw [h1]
  exact rd_whole h2 (by omega)
/-- Blocks that hold no bytes have turned. -/
def NoBytes (w : World) (S : List Nat) : Prop := ∀ g ∈ S, ∃ C t fr, w.heap[g]? = some (.cells C t fr) ∧ t ≠ 5 ∧ t ≠ 22
theorem TwinAt.mod {S : List Nat} {a w : World} {y : SlR} (h : TwinAt a y) (hm : Mod S a w) (hs : NoBytes a S) : TwinAt w y := by
  obtain ⟨h0, g, h1, h2⟩ := h
  refine ⟨h0, g, h1, hm.get h2 fun hg => ?_⟩
  obtain ⟨C, t, fr, h3, h4, _⟩ := hs g hg
  rw [h2] at h3; injection h3 with h3; injection h3 with _ h5 _
  exact h4 h5.symm
theorem OwnE.noBytes {α : Type} {f : α → Value} {S : List Nat} {a w : World} {B : Nat} {v : Value} {l : List α} (h : OwnE 22 f a B v l) (hm : Mod S a w) (hs : NoBytes a S) : OwnE 22 f w B v l := by
  refine h.mod hm fun g hg hv => ?_
  obtain ⟨C, t, fr, h3, _, h4⟩ := hs g hg
  rcases h.2 with ⟨rfl, _⟩ | ⟨g', cap, cur, rfl, _, hb, _⟩
  · cases hv
  · injection hv with hv
    simp only at hv
    subst hv
    rw [hb] at h3; injection h3 with h3; injection h3 with _ h5 _
    exact h4 h5.symm
/-- The lists that were laid on the way. -/
structure CK (w wr : World) (vo : Value) (ps : List SlR) : Prop where
  own : OwnE 22 SlR.v wr w.heap.size vo ps
  kept : ∀ y ∈ ps, TwinAt wr y
  mod : Mod [] w wr
theorem CK.step {S : List Nat} {w wr w' : World} {vo : Value} {ps : List SlR} (h : CK w wr vo ps) (hm : Mod S wr w') (hs : NoBytes wr S) (hS : ∀ g ∈ S, w.heap.size ≤ g) : CK w w' vo ps :=
  ⟨h.own.noBytes hm hs, fun y hy => (h.kept y hy).mod hm hs, h.mod.trans hm (fun g hg => .inr (hS g hg))⟩
theorem CK.mod0 {w wr w' : World} {vo : Value} {ps : List SlR} (h : CK w wr vo ps) (hm : Mod [] wr w') : CK w w' vo ps := h.step hm (fun _ hg => by cases hg) (fun _ hg => by cases hg)
/-- One more, in the block x. -/
theorem CK.push {w wr w1 w' : World} {vo v' : Value} {ps : List SlR} {y : SlR} (h : CK w wr vo ps) (hy : TwinAt wr y) (hm : Mod [] wr w1) (hg : w1.grownBy w' vo.ownBlock) (ho : OwnE 22 SlR.v w' w.heap.size v' (ps ++ [y])) : CK w w' v' (ps ++ [y]) := by
  have hne : ∀ z : SlR, TwinAt wr z → TwinAt w' z := by
    intro z ⟨h0, g, h1, h2⟩
    refine ⟨h0, g, h1, (hg.block g (Nat.lt_of_lt_of_le (lt_of_block h2) hm.size) fun hx => ?_).trans (hm.get0 h2)⟩
    rcases h.own.2 with ⟨rfl, _⟩ | ⟨g', cap, cur, rfl, _, hb, _⟩
    · cases hx
    · injection hx with hx
      simp only at hx
      subst hx
      rw [h2] at hb; injection hb with hb; injection hb with _ h5 _
      exact absurd h5 (by decide)
  refine ⟨ho, fun z hz => ?_, (h.mod.trans0 hm).of_grown hg (fun g hv => .inr (h.own.row g hv))⟩
  rcases List.mem_append.1 hz with hz | hz
  · exact hne z (h.kept z hz)
  · rw [List.mem_singleton] at hz; subst hz; exact hne _ hy
theorem grown_keep {α : Type} {f : α → Value} {w w1 w' : World} {B k : Nat} {vo : Value} {ps : List α} {C : Array Value} {t : TypeId} {fr : Nat × Nat} (ho : OwnE 22 f w B vo ps) (hm : Mod [] w w1) (hg : w1.grownBy w' vo.ownBlock) (hb : w.heap[k]? = some (.cells C t fr)) (ht : t ≠ 22) : w'.heap[k]? = some (.cells C t fr) := by
  refine (hg.block k (Nat.lt_of_lt_of_le (lt_of_block hb) hm.size) fun hx => ?_).trans (hm.get0 hb)
  rcases ho.2 with ⟨rfl, _⟩ | ⟨g', cap, cur, rfl, _, hb', _⟩
  · cases hx
  · injection hx with hx
    simp only at hx
    subst hx
    rw [hb] at hb'; injection hb' with hb'; injection hb' with _ h5 _
    exact absurd h5 ht
theorem IsHash.grown {α : Type} {f : α → Value} {w w1 w' : World} {B g : Nat} {vo : Value} {ps : List α} {l : List UInt8} (h : IsHash w g l) (ho : OwnE 22 f w B vo ps) (hm : Mod [] w w1) (hg : w1.grownBy w' vo.ownBlock) : IsHash w' g l := by
  obtain ⟨wt, h1, h2, hb⟩ := h
  exact ⟨wt, h1, h2, grown_keep ho hm hg hb (by decide)⟩
theorem noBytes_hash {w : World} {g : Nat} {l : List UInt8} (h : IsHash w g l) : NoBytes w [g] := by
  intro x hx
  rw [List.mem_singleton] at hx; subst hx
  obtain ⟨wt, _, _, hb⟩ := h
  exact ⟨_, _, _, hb, by decide, by decide⟩
theorem joined_snoc (ps : List SlR) (y : SlR) : joined (ps ++ [y]) = joined ps ++ y.d := by simp [joined]
/-- A part of a list, in a block of its own. -/
theorem twin_cut (d : List UInt8) (p : Option Addr) (cap i j n : Nat) (w : World) (hd : Rd V8 w p cap d) (hij : i ≤ j) (hj : j ≤ d.length) (hn : n = j - i) (hlen : d.length ≤ 1048576) :
    Calls Tryd.prog 28 #[.slice (slp p i cap 1) n (cap - i)] w fun e w' => e = .returned (.slice (some ⟨w.heap.size, 0, none⟩) n n) ∧ TwinAt w' ⟨some ⟨w.heap.size, 0, none⟩, n, (d.drop i).take n⟩ ∧ Mod [] w w' := by
  have hl := cut_length d i j hij hj
  have h' := twin_any (slp p i cap 1) (cap - i) ((d.drop i).take (j - i)) w (rd_cut hd i j hij hj) (by omega)
  rw [hl, ← hn] at h'
  rw [← hn] at hl
  exact h'.mono fun e w' ⟨h1, h2, h3⟩ => ⟨h1, ⟨hl.symm, _, rfl, h2⟩, h3⟩
theorem bits_whole (d : List UInt8) : bitsOf d (8 * d.length) = fin d 0 0 := by
  unfold bitsOf
  rw [if_pos (by omega), show 8 * d.length / 8 = d.length by omega, List.take_length]
set_option maxRecDepth 100000 in
set_option maxHeartbeats 4000000 in
theorem cuts_law (p : Option Addr) (cap : Nat) (d : List UInt8) (pc : Option Addr) (cc : Nat) (cs : List Int) (w : World) (hr : Rd V8 w p cap d) (hc : Rd (Value.int .i64) w pc cc cs) (hcb : ∀ c ∈ cs, -9223372036854775808 ≤ c ∧ c ≤ 9223372036854775807) (ht : Tab w) (hd : d.length ≤ 1048576) (hcl : cs.length ≤ 1048576) :
    Calls Tryd.prog 9 #[.slice p d.length cap, .slice pc cs.length cc] w fun e w' => e = .returned (.bool true) ∧ Mod [] w w' := by
  have HR := Lib.hid hr
  have HC := Lib.hid hc
  have HCB := Lib.hid hcb
  have HT := Lib.hid ht
  have hlt := ht.lt
  have hcap := hr.le
  obtain ⟨X, SX⟩ := sumD_of d (by omega)
  have HXL := Lib.hid SX.len
  clear hr hc hcb ht
  go_enter Tryd.func9, Tryd.ntmps9
  go_wp2_with fail
  refine (awake_any w HT.out).mono ?_
  rintro e w1 ⟨rfl, m1⟩
  go_wp2_with fail
  refine (new_any w1).mono ?_
  rintro e w2 ⟨g, rfl, hg, hh, m2⟩
  have M2 := m1.trans0 m2
  have HG := Lib.hid hh
  have hgw : w.heap.size ≤ g := by have := m1.size; omega
  clear hh m1 m2 hg
  go_wp2_with fail
  go_loopw [7, 8, 9] (fun fv pv iv wr => ∃ (i f : Nat) (vo : Value) (ps : List SlR), i ≤ cs.length ∧ i ≤ 60 ∧ f ≤ d.length ∧ iv = .int .i64 i ∧ fv = .int .i64 f ∧ vo = pv ∧ ps.length = i ∧ IsHash wr g (d.take f) ∧ joined ps = d.take f ∧ CK w wr vo ps) (fun _ _ iv _ => 60 - (intOf iv).toNat)
  case atStart => exact ⟨0, 0, _, [], by omega, by omega, by omega, rfl, rfl, rfl, rfl, HG.out, rfl, ⟨OwnE.nil _ _ _ _, by simp, M2⟩⟩
  case round =>
    clear HG M2
    obtain ⟨i, f, vo, ps, hi, hi60, hf, rfl, rfl, rfl, hpl, hg, hj, hck⟩ := hrel
    have HG := Lib.hid hg
    have HJ := Lib.hid hj
    have HCK := Lib.hid hck
    have HPL := Lib.hid hpl
    clear hg hj hck hpl
    by_cases hlti : i < cs.length ∧ i < 60
    · obtain ⟨hi1, hi2⟩ := hlti
      obtain ⟨c, hci⟩ : ∃ c, cs[i]? = some c := ⟨cs[i], List.getElem?_eq_getElem hi1⟩
      obtain ⟨hc0, hc1⟩ := HCB.out c (List.mem_of_getElem? hci)
      obtain ⟨b, o, rfl, hcell⟩ := HC.out.cell i c hci
      have hb : b < w.heap.size := block_lt_of_cell hcell
      have hcr : wr.cell? ⟨b, o + i, none⟩ = some (.int .i64 c) := by
        rw [World.cell?_of_block (w := w) (HCK.out.mod.block b hb (by simp))]; exact hcell
      clear hci hcell
      go_wp2_with fail
      refine (pick_any c _ _ hc0 hc1 (by omega) (by omega)).mono ?_
      rintro e w' ⟨r, hr1, rfl, rfl⟩
      obtain ⟨t, ht⟩ : ∃ t, t = f + r := ⟨_, rfl⟩
      have htz : (f : Int) + (r : Int) = (t : Int) := by omega
      have hft : f ≤ t := by omega
      have htd : t ≤ d.length := by omega
      have htc : t ≤ cap := by omega
      clear ht hr1 hcr
      have WG := Lib.hid (fun n (hn : n = t - f) => write_cut g d p cap f t n w' HG.out (HR.out.mod0 HCK.out.mod) hft htd hn (fun hne => HR.out.off hgw hne) (Tab.mod HCK.out.mod HT.out (by simp)) (by omega) (by omega))
      go_wp2_with fail
      refine (WG.out _ rfl).mono ?_
      rintro e w5 ⟨rfl, hg5, m5⟩
      have HG5 := Lib.hid hg5
      have hck5 := HCK.out.step m5 (noBytes_hash HG.out) (fun x hx => by simp at hx; omega)
      have HCK5 := Lib.hid hck5
      have TW := Lib.hid (fun n (hn : n = t - f) => twin_cut d p cap f t n w5 (HR.out.mod0 hck5.mod) hft htd hn hd)
      clear hg5 m5 hck5 HG HCK WG
      go_wp2_with fail
      refine (TW.out _ rfl).mono ?_
      rintro e w6 ⟨rfl, htw, m6⟩
      obtain ⟨h, hh⟩ : ∃ h, h = w5.heap.size := ⟨_, rfl⟩
      rw [← hh] at htw ⊢
      have HTW := Lib.hid htw
      have HCK6 := Lib.hid (HCK5.out.mod0 m6)
      have HG6 := Lib.hid (HG5.out.mod m6 (by simp))
      have hv : SlR.v ⟨some ⟨h, 0, none⟩, t - f, (d.drop f).take (t - f)⟩ = .slice (some ⟨h, 0, none⟩) (t - f) (t - f) := by rw [SlR.v, cut_length d f t hft htd]
      have hrg := range_oneE SlR.v w6 ⟨some ⟨h, 0, none⟩, t - f, (d.drop f).take (t - f)⟩ 22 w6.heap.size rfl
      rw [hv] at hrg
      have HRG := Lib.hid hrg
      have HSZ := Lib.hid (Nat.le_trans HCK5.out.mod.size m6.size)
      clear htw m6 hrg hv TW HCK5 HG5 hh
      go_wp2_with (at_builtin; with_reducible refine froz_app _ _ rfl ?_)
      unfold Froz
      refine wpList_pushE (.slice none 0 0) 24 Tryd.underlying30 infoSl rfl oneSl rfl _ _ rfl w.heap.size _ _ (HCK6.out.own.alloc _) rfl w6.heap.size 0 1 1 [⟨some ⟨h, 0, none⟩, t - f, (d.drop f).take (t - f)⟩] rfl rfl HRG.out (by rw [HPL.out]; unfold maxLen; simp; omega) (by rw [HPL.out]; simp; omega) (by have := HSZ.out; simp; omega) ?_
      intro v' w7 ho7 hg7
      have hck7 := HCK6.out.push HTW.out ((Mod.refl [] w6).alloc _) hg7 ho7
      have hg7' : IsHash w7 g (d.take t) := HG6.out.grown HCK6.out.own ((Mod.refl [] w6).alloc _) hg7
      have HCK7 := Lib.hid hck7
      have HG7 := Lib.hid hg7'
      clear ho7 hg7 hck7 hg7' HTW HRG HSZ HCK6 HG6
      obtain ⟨x, SXT⟩ := sumD_of (d.take t) (by simp; omega)
      have HL := Lib.hid SXT.len
      go_wp2_with fail
      refine (SXT.hash g _ HG7.out (Tab.mod HCK7.out.mod HT.out (by simp))).mono ?_
      rintro e w8 ⟨rfl, m8⟩
      have HCK8 := Lib.hid ((HCK7.out.mod0 m8).mod0 ((Mod.refl [] w8).alloc (.cells (x.map V8).toArray 26)))
      have HG8 := Lib.hid ((HG7.out.mod m8 (by simp)).mod ((Mod.refl [] w8).alloc (.cells (x.map V8).toArray 26)) (by simp))
      have HA8 := Lib.hid (hp_new w8 (.cells (x.map V8).toArray 26) _ rfl)
      have hS := storeNewD w8 x HL.out
      clear m8 HCK7 HG7
      go_wp2_with fail
      clear hS
      refine (SXT.go p cap t _ (by simp; omega) ((HR.out.take t).mod0 HCK8.out.mod) (Tab.mod HCK8.out.mod HT.out (by simp))).mono ?_
      rintro e w9 ⟨rfl, m9⟩
      have HCK9 := Lib.hid ((HCK8.out.mod0 m9).mod0 ((Mod.refl [] w9).alloc (.cells (x.map V8).toArray 26)))
      have HG9 := Lib.hid ((HG8.out.mod m9 (by simp)).mod ((Mod.refl [] w9).alloc (.cells (x.map V8).toArray 26)) (by simp))
      have HA9 := Lib.hid (hp_old (o := (.cells (x.map V8).toArray 26)) (m9.get0 HA8.out))
      have HB9 := Lib.hid (hp_new w9 (.cells (x.map V8).toArray 26) _ rfl)
      have hS := storeNewD w9 x HL.out
      clear m9 HCK8 HG8 HA8
      go_wp2_with fail
      clear hS
      have hlen := len_any g (d.take t) _ HG9.out
      rw [List.length_take_of_le htd] at hlen
      refine hlen.mono ?_
      rintro e w10 ⟨rfl, rfl⟩
      have hL1 := loadDv x HL.out HA9.out
      have hL2 := loadDv x HL.out HB9.out
      have hN := fun w => neqD w x HL.out
      have hGd := eqGuardD
      clear hlen HA9 HB9
      go_wp2_with fail
      clear hL1 hL2 hN hGd
      go_roundw
      case rel => exact ⟨i + 1, t, _, _, by omega, by omega, htd, by go_num, rfl, rfl, by rw [List.length_append, HPL.out]; rfl, HG9.out, by rw [joined_snoc, HJ.out]; exact take_cut d f t hft, HCK9.out⟩
      case measure => simp [intOf]; omega
    · have hex : ¬ i < cs.length ∨ (i < cs.length ∧ ¬ ((i : Int) < 60)) := by
        by_cases h1 : i < cs.length
        · right; exact ⟨h1, by omega⟩
        · left; exact h1
      clear hlti
      have hfc : f ≤ cap := by omega
      obtain ⟨xf, SXF⟩ := sumD_of (d.take f) (by simp; omega)
      have HFL := Lib.hid SXF.len
      have WG := Lib.hid (fun (k n : Nat) (w1 : World) (hn : n = d.length - f) (hk : IsHash w1 k (d.take f)) (hm : Mod [] w w1) (hkw : w.heap.size ≤ k) => write_cut k d p cap f d.length n w1 hk (HR.out.mod0 hm) hf (Nat.le_refl _) hn (fun hne => HR.out.off hkw hne) (Tab.mod hm HT.out (by simp)) (by omega) (by omega))
      rcases hex with hex | ⟨hex1, hex2⟩
      all_goals
        go_wp2_with fail
        refine (copy_any g (d.take f) wr HG.out).mono ?_
        rintro e w2 ⟨k, rfl, hk, hkh, m2⟩
        have hkg : g < k := by obtain ⟨_, _, _, hb⟩ := HG.out; have := lt_of_block hb; omega
        have hkw : w.heap.size ≤ k := by omega
        have HCK2 := Lib.hid (HCK.out.mod0 m2)
        have HG2 := Lib.hid (HG.out.mod m2 (by simp))
        have HK2 := Lib.hid hkh
        clear hkh m2 hk
        go_wp2_with fail
        refine (WG.out g _ _ rfl HG2.out HCK2.out.mod hgw).mono ?_
        rintro e w5 ⟨rfl, hg5, m5⟩
        have HG5 := Lib.hid hg5
        have HK5 := Lib.hid (HK2.out.mod m5 (by simp; omega))
        have hck5 := HCK2.out.step m5 (noBytes_hash HG2.out) (fun x hx => by simp at hx; omega)
        have HCK5 := Lib.hid hck5
        have TW := Lib.hid (fun n (hn : n = d.length - f) => twin_cut d p cap f d.length n w5 (HR.out.mod0 hck5.mod) hf (Nat.le_refl _) hn hd)
        clear hg5 m5 hck5 HG2 HK2 HCK2
        go_wp2_with fail
        refine (TW.out _ rfl).mono ?_
        rintro e w6 ⟨rfl, htw, m6⟩
        obtain ⟨h, hh⟩ : ∃ h, h = w5.heap.size := ⟨_, rfl⟩
        rw [← hh] at htw ⊢
        have HTW := Lib.hid htw
        have HCK6 := Lib.hid (HCK5.out.mod0 m6)
        have HG6 := Lib.hid (HG5.out.mod m6 (by simp))
        have HK6 := Lib.hid (HK5.out.mod m6 (by simp))
        have hv : SlR.v ⟨some ⟨h, 0, none⟩, d.length - f, (d.drop f).take (d.length - f)⟩ = .slice (some ⟨h, 0, none⟩) (d.length - f) (d.length - f) := by rw [SlR.v, cut_length d f d.length hf (Nat.le_refl _)]
        have hrg := range_oneE SlR.v w6 ⟨some ⟨h, 0, none⟩, d.length - f, (d.drop f).take (d.length - f)⟩ 22 w6.heap.size rfl
        rw [hv] at hrg
        have HRG := Lib.hid hrg
        have HSZ := Lib.hid (Nat.le_trans HCK5.out.mod.size m6.size)
        clear htw m6 hrg hv TW HCK5 HG5 HK5 hh
        go_wp2_with (at_builtin; with_reducible refine froz_app _ _ rfl ?_)
        unfold Froz
        refine wpList_pushE (.slice none 0 0) 24 Tryd.underlying30 infoSl rfl oneSl rfl _ _ rfl w.heap.size _ _ (HCK6.out.own.alloc _) rfl w6.heap.size 0 1 1 [⟨some ⟨h, 0, none⟩, d.length - f, (d.drop f).take (d.length - f)⟩] rfl rfl HRG.out (by rw [HPL.out]; unfold maxLen; simp; omega) (by rw [HPL.out]; simp; omega) (by have := HSZ.out; simp; omega) ?_
        intro v' w7 ho7 hg7
        have hck7 := HCK6.out.push HTW.out ((Mod.refl [] w6).alloc _) hg7 ho7
        have hg7' : IsHash w7 g d := by
          have h := HG6.out.grown HCK6.out.own ((Mod.refl [] w6).alloc _) hg7
          rwa [List.take_length] at h
        have HK7 := Lib.hid (HK6.out.grown HCK6.out.own ((Mod.refl [] w6).alloc _) hg7)
        have HCK7 := Lib.hid hck7
        have HG7 := Lib.hid hg7'
        have hjd : joined (ps ++ [⟨some ⟨h, 0, none⟩, d.length - f, (d.drop f).take (d.length - f)⟩]) = d := by
          rw [joined_snoc, HJ.out]
          show d.take f ++ (d.drop f).take (d.length - f) = d
          rw [take_cut d f d.length hf, List.take_length]
        have hpl7 : (ps ++ [(⟨some ⟨h, 0, none⟩, d.length - f, (d.drop f).take (d.length - f)⟩ : SlR)]).length ≤ 61 := by rw [List.length_append, HPL.out]; simp; omega
        obtain ⟨qs, hqs⟩ : ∃ qs, qs = ps ++ [(⟨some ⟨h, 0, none⟩, d.length - f, (d.drop f).take (d.length - f)⟩ : SlR)] := ⟨_, rfl⟩
        rw [← hqs] at HCK7 hjd hpl7
        have HJD := Lib.hid hjd
        clear ho7 hg7 hck7 hg7' HTW HRG HSZ HCK6 HG6 HK6 hqs hjd
        obtain ⟨po, co, hvo, hown, _⟩ := HCK7.out.own.rd
        subst hvo
        clear hown
        go_wp2_with fail
        refine (SXF.hash k _ HK7.out (Tab.mod HCK7.out.mod HT.out (by simp))).mono ?_
        rintro e w8 ⟨rfl, m8⟩
        have HCK8 := Lib.hid ((HCK7.out.mod0 m8).mod0 ((Mod.refl [] w8).alloc (.cells (xf.map V8).toArray 26)))
        have HG8 := Lib.hid ((HG7.out.mod m8 (by simp)).mod ((Mod.refl [] w8).alloc (.cells (xf.map V8).toArray 26)) (by simp))
        have HK8 := Lib.hid ((HK7.out.mod m8 (by simp)).mod ((Mod.refl [] w8).alloc (.cells (xf.map V8).toArray 26)) (by simp))
        have A8_0 := Lib.hid (hp_new w8 (.cells (xf.map V8).toArray 26) _ rfl)
        have hS := storeNewD w8 xf HFL.out
        clear m8 HCK7 HG7 HK7  
        go_wp2_with fail
        clear hS
        refine (WG.out k _ _ rfl HK8.out HCK8.out.mod hkw).mono ?_
        rintro e w9 ⟨rfl, hk9, m9⟩
        rw [List.take_length] at hk9
        have HCK9 := Lib.hid (HCK8.out.step m9 (noBytes_hash HK8.out) (fun x hx => by simp at hx; omega))
        have HG9 := Lib.hid (HG8.out.mod m9 (by simp; omega))
        have HK9 := Lib.hid hk9
        have A9_0 := Lib.hid (m9.get A8_0.out (by have h1 := A8_0.out; obtain ⟨_, _, _, hb⟩ := HK8.out; rintro hx; rw [List.mem_singleton] at hx; rw [hx, hb] at h1; injection h1 with h1; injection h1 with _ h2 _; exact absurd h2 (by decide)))
        clear hk9 m9 HCK8 HG8 HK8 A8_0
        go_wp2_with fail
        refine (SX.go p cap d.length _ rfl (HR.out.mod0 HCK9.out.mod) (Tab.mod HCK9.out.mod HT.out (by simp))).mono ?_
        rintro e w10 ⟨rfl, m10⟩
        have HCK10 := Lib.hid ((HCK9.out.mod0 m10).mod0 ((Mod.refl [] w10).alloc (.cells (X.map V8).toArray 26)))
        have HG10 := Lib.hid ((HG9.out.mod m10 (by simp)).mod ((Mod.refl [] w10).alloc (.cells (X.map V8).toArray 26)) (by simp))
        have HK10 := Lib.hid ((HK9.out.mod m10 (by simp)).mod ((Mod.refl [] w10).alloc (.cells (X.map V8).toArray 26)) (by simp))
        have A10_0 := Lib.hid (hp_old (o := (.cells (X.map V8).toArray 26)) (m10.get0 A9_0.out))
        have A10_1 := Lib.hid (hp_new w10 (.cells (X.map V8).toArray 26) _ rfl)
        have hS := storeNewD w10 X HXL.out
        clear m10 HCK9 HG9 HK9 A9_0 
        go_wp2_with fail
        clear hS
        refine (SX.hash g _ HG10.out (Tab.mod HCK10.out.mod HT.out (by simp))).mono ?_
        rintro e w11 ⟨rfl, m11⟩
        have HCK11 := Lib.hid ((HCK10.out.mod0 m11).mod0 ((Mod.refl [] w11).alloc (.cells (X.map V8).toArray 26)))
        have HG11 := Lib.hid ((HG10.out.mod m11 (by simp)).mod ((Mod.refl [] w11).alloc (.cells (X.map V8).toArray 26)) (by simp))
        have HK11 := Lib.hid ((HK10.out.mod m11 (by simp)).mod ((Mod.refl [] w11).alloc (.cells (X.map V8).toArray 26)) (by simp))
        have A11_0 := Lib.hid (hp_old (o := (.cells (X.map V8).toArray 26)) (m11.get0 A10_0.out))
        have A11_1 := Lib.hid (hp_old (o := (.cells (X.map V8).toArray 26)) (m11.get0 A10_1.out))
        have A11_2 := Lib.hid (hp_new w11 (.cells (X.map V8).toArray 26) _ rfl)
        have hS := storeNewD w11 X HXL.out
        clear m11 HCK10 HG10 HK10 A10_0 A10_1 
        go_wp2_with fail
        clear hS
        refine (SX.hash k _ HK11.out (Tab.mod HCK11.out.mod HT.out (by simp))).mono ?_
        rintro e w12 ⟨rfl, m12⟩
        have HCK12 := Lib.hid ((HCK11.out.mod0 m12).mod0 ((Mod.refl [] w12).alloc (.cells (X.map V8).toArray 26)))
        have HG12 := Lib.hid ((HG11.out.mod m12 (by simp)).mod ((Mod.refl [] w12).alloc (.cells (X.map V8).toArray 26)) (by simp))
        have HK12 := Lib.hid ((HK11.out.mod m12 (by simp)).mod ((Mod.refl [] w12).alloc (.cells (X.map V8).toArray 26)) (by simp))
        have A12_0 := Lib.hid (hp_old (o := (.cells (X.map V8).toArray 26)) (m12.get0 A11_0.out))
        have A12_1 := Lib.hid (hp_old (o := (.cells (X.map V8).toArray 26)) (m12.get0 A11_1.out))
        have A12_2 := Lib.hid (hp_old (o := (.cells (X.map V8).toArray 26)) (m12.get0 A11_2.out))
        have A12_3 := Lib.hid (hp_new w12 (.cells (X.map V8).toArray 26) _ rfl)
        have hS := storeNewD w12 X HXL.out
        clear m12 HCK11 HG11 HK11 A11_0 A11_1 A11_2 
        go_wp2_with fail
        clear hS
        obtain ⟨po2, co2, hvo2, hown2, _⟩ := HCK12.out.own.rd
        injection hvo2 with e1 e2 e3
        subst e1 e3
        have hpa := parts_any po co qs _ hown2 (fun y hy => (HCK12.out.kept y hy).rd) (Tab.mod HCK12.out.mod HT.out (by simp)) (Tab.mod HCK12.out.mod HT.out (by simp)).lt (by omega) (by rw [← joined_length, HJD.out]; omega)
        rw [HJD.out, ← SX.eq] at hpa
        have HPA := Lib.hid hpa
        clear hown2 hpa e2
        refine (HPA.out).mono ?_
        rintro e w13 ⟨rfl, m13⟩
        have HCK13 := Lib.hid ((HCK12.out.mod0 m13).mod0 ((Mod.refl [] w13).alloc (.cells (X.map V8).toArray 26)))
        have HG13 := Lib.hid ((HG12.out.mod m13 (by simp)).mod ((Mod.refl [] w13).alloc (.cells (X.map V8).toArray 26)) (by simp))
        have HK13 := Lib.hid ((HK12.out.mod m13 (by simp)).mod ((Mod.refl [] w13).alloc (.cells (X.map V8).toArray 26)) (by simp))
        have A13_0 := Lib.hid (hp_old (o := (.cells (X.map V8).toArray 26)) (m13.get0 A12_0.out))
        have A13_1 := Lib.hid (hp_old (o := (.cells (X.map V8).toArray 26)) (m13.get0 A12_1.out))
        have A13_2 := Lib.hid (hp_old (o := (.cells (X.map V8).toArray 26)) (m13.get0 A12_2.out))
        have A13_3 := Lib.hid (hp_old (o := (.cells (X.map V8).toArray 26)) (m13.get0 A12_3.out))
        have A13_4 := Lib.hid (hp_new w13 (.cells (X.map V8).toArray 26) _ rfl)
        have hS := storeNewD w13 X HXL.out
        clear m13 HCK12 HG12 HK12 A12_0 A12_1 A12_2 A12_3 HPA
        go_wp2_with fail
        clear hS
        have hbi := fun (z : Int) (hz : z = ((8 * d.length : Nat) : Int)) => hz ▸ bits_yes p cap d (8 * d.length) _ (HR.out.mod0 HCK13.out.mod) (Tab.mod HCK13.out.mod HT.out (by simp)) (Tab.mod HCK13.out.mod HT.out (by simp)).lt (Nat.le_refl _) (by omega)
        simp only [bits_whole, ← SX.eq] at hbi
        refine (hbi _ (by omega)).mono ?_
        rintro e w14 ⟨rfl, m14⟩
        have HCK14 := Lib.hid ((HCK13.out.mod0 m14).mod0 ((Mod.refl [] w14).alloc (.cells (X.map V8).toArray 26)))
        have A14_0 := Lib.hid (hp_old (o := (.cells (X.map V8).toArray 26)) (m14.get0 A13_0.out))
        have A14_1 := Lib.hid (hp_old (o := (.cells (X.map V8).toArray 26)) (m14.get0 A13_1.out))
        have A14_2 := Lib.hid (hp_old (o := (.cells (X.map V8).toArray 26)) (m14.get0 A13_2.out))
        have A14_3 := Lib.hid (hp_old (o := (.cells (X.map V8).toArray 26)) (m14.get0 A13_3.out))
        have A14_4 := Lib.hid (hp_old (o := (.cells (X.map V8).toArray 26)) (m14.get0 A13_4.out))
        have A14_5 := Lib.hid (hp_new w14 (.cells (X.map V8).toArray 26) _ rfl)
        have hS := storeNewD w14 X HXL.out
        clear m14 HCK13 A13_0 A13_1 A13_2 A13_3 A13_4 hbi
        go_wp2_with fail
        clear hS
        refine (SXF.go p cap f _ (by simp; omega) ((HR.out.take f).mod0 HCK14.out.mod) (Tab.mod HCK14.out.mod HT.out (by simp))).mono ?_
        rintro e w15 ⟨rfl, m15⟩
        have HCK15 := Lib.hid ((HCK14.out.mod0 m15).mod0 ((Mod.refl [] w15).alloc (.cells (xf.map V8).toArray 26)))
        have A15_0 := Lib.hid (hp_old (o := (.cells (xf.map V8).toArray 26)) (m15.get0 A14_0.out))
        have A15_1 := Lib.hid (hp_old (o := (.cells (xf.map V8).toArray 26)) (m15.get0 A14_1.out))
        have A15_2 := Lib.hid (hp_old (o := (.cells (xf.map V8).toArray 26)) (m15.get0 A14_2.out))
        have A15_3 := Lib.hid (hp_old (o := (.cells (xf.map V8).toArray 26)) (m15.get0 A14_3.out))
        have A15_4 := Lib.hid (hp_old (o := (.cells (xf.map V8).toArray 26)) (m15.get0 A14_4.out))
        have A15_5 := Lib.hid (hp_old (o := (.cells (xf.map V8).toArray 26)) (m15.get0 A14_5.out))
        have A15_6 := Lib.hid (hp_new w15 (.cells (xf.map V8).toArray 26) _ rfl)
        have hS := storeNewD w15 xf HFL.out
        clear m15 HCK14 A14_0 A14_1 A14_2 A14_3 A14_4 A14_5 
        have hL0 := loadDv xf HFL.out A15_0.out
        have hL1 := loadDv X HXL.out A15_1.out
        have hL2 := loadDv X HXL.out A15_2.out
        have hL3 := loadDv X HXL.out A15_3.out
        have hL4 := loadDv X HXL.out A15_4.out
        have hL5 := loadDv X HXL.out A15_5.out
        have hL6 := loadDv xf HFL.out A15_6.out
        have hE := fun w => eqD w X X HXL.out HXL.out
        have hE2 := fun w => eqD w xf xf HFL.out HFL.out
        have hGd := eqGuardD
        clear A15_0 A15_1 A15_2 A15_3 A15_4 A15_5 A15_6
        go_wp2_with fail
        go_ret
        exact ⟨rfl, HCK15.out.mod⟩
end Go.Proofs.YtmjdfglidfdkaaaDoor
