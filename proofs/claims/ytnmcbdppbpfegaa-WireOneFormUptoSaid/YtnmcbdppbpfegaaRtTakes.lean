/- Lists of bytes off a reader: the list of lists that 'copies' reads. Condition: at most 2^22 bytes. -/
import Derived.Test.YtnmcbdppbpfegaaRtCopy
namespace Go.Proofs.Ytnmcbdppbpfegaa
open Go.RowKit
attribute [local go_sem high] one8 st8 cm8 b_and8 b_and8r b_and8l b_or8 b_or8r b_or8l b_xor8 b_xor8r b_xor8l b_andNot8 b_andNot8r b_andNot8l b_add8 b_add8r b_add8l b_sub8 b_sub8r b_sub8l b_mul8 b_mul8r b_mul8l b_eql8 b_eql8r b_eql8l b_neq8 b_neq8r b_neq8l b_lss8 b_lss8r b_lss8l b_leq8 b_leq8r b_leq8l b_gtr8 b_gtr8r b_gtr8l b_geq8 b_geq8r b_geq8l b_quo8r b_rem8r b_shl8r b_shr8r b_shl8l b_shr8l u_xor8 g_eql8 g_neq8 g_eql8' g_neq8' one32 st32 cm32 b_and32 b_and32r b_and32l b_or32 b_or32r b_or32l b_xor32 b_xor32r b_xor32l b_andNot32 b_andNot32r b_andNot32l b_add32 b_add32r b_add32l b_sub32 b_sub32r b_sub32l b_mul32 b_mul32r b_mul32l b_eql32 b_eql32r b_eql32l b_neq32 b_neq32r b_neq32l b_lss32 b_lss32r b_lss32l b_leq32 b_leq32r b_leq32l b_gtr32 b_gtr32r b_gtr32l b_geq32 b_geq32r b_geq32l b_quo32r b_rem32r b_shl32r b_shr32r b_shl32l b_shr32l u_xor32 g_eql32 g_neq32 g_eql32' g_neq32' one64 st64 cm64 b_and64 b_and64r b_and64l b_or64 b_or64r b_or64l b_xor64 b_xor64r b_xor64l b_andNot64 b_andNot64r b_andNot64l b_add64 b_add64r b_add64l b_sub64 b_sub64r b_sub64l b_mul64 b_mul64r b_mul64l b_eql64 b_eql64r b_eql64l b_neq64 b_neq64r b_neq64l b_lss64 b_lss64r b_lss64l b_leq64 b_leq64r b_leq64l b_gtr64 b_gtr64r b_gtr64l b_geq64 b_geq64r b_geq64l b_quo64r b_rem64r b_shl64r b_shr64r b_shl64l b_shr64l u_xor64 g_eql64 g_neq64 g_eql64' g_neq64' c_u8_u8 c_u8_u32 c_u8_u64 c_i_u8 c_u32_u8 c_u32_u32 c_u32_u64 c_i_u32 c_u64_u8 c_u64_u32 c_u64_u64 c_i_u64 c_u8_i c_u32_i
attribute [local go_sem ↓] ce8 ce32 ce64
attribute [local go_sem ↓] sliced_slp
theorem takeBytesCall (xs : Array Value) (w : World) : (callFunc 78 xs).run Try.prog w = .ok (.enter 78 xs) w := by kernel_rfl
theorem layBytesCall (xs : Array Value) (w : World) : (callFunc 80 xs).run Try.prog w = .ok (.enter 80 xs) w := by kernel_rfl
theorem takeBytes_any (B g : Nat) (v : Value) (R : Rr) (w : World) (h : IsR w B g v R) :
    Calls Try.prog 78 #[.pointer (some ⟨g, 0, none⟩)] w (RrBytes B g v (R.tk [] (bytesP 5)).1 (R.tk [] (bytesP 5)).2 w) := by
  have H := Lib.hid (rBytes_any B g v R w h 5)
  clear h
  go_enter Try.func78, Try.ntmps78
  go_wp2_with fail
  refine H.out.mono ?_
  rintro e w1 ⟨r, rfl, ho, hi, hm⟩
  have HO := Lib.hid ho
  have HI := Lib.hid hi
  have HM := Lib.hid hm
  clear ho hi hm H
  go_wp2_with fail
  go_ret
  exact ⟨r, rfl, HO.out, HI.out, HM.out⟩
theorem layBytes_any (B g : Nat) (v : Value) (W : Wr) (w : World) (h : IsW w B g v W) (hk : W.b.length ≤ 4194304) (p : Option Addr) (cap : Nat) (l : List UInt8) (hr : Rd V8 w p cap l) (hl : l.length ≤ 549755813888) (ho : l ≠ [] → Off p (footB g v)) :
    Calls Try.prog 80 #[.pointer (some ⟨g, 0, none⟩), .slice p l.length cap] w (WrPost B g v (W.lay (form l.length ++ l)) (.tuple #[]) w) := by
  have H := Lib.hid (bytesW_any B g v W w h hk p cap l hr hl ho)
  clear h hr ho
  go_enter Try.func80, Try.ntmps80
  go_wp2_with fail
  refine H.out.mono ?_
  intro e w9 hp
  have he := hp.unit
  subst he
  have HP := Lib.hid hp
  clear hp H
  go_wp2_with fail
  go_end0
  exact HP.out
/-- The forms of lists of bytes, one behind the other. -/
def forms (xs : List SlR) : List UInt8 := xs.flatMap fun y => form y.d.length ++ y.d
theorem forms_snoc (xs : List SlR) (y : SlR) : forms (xs ++ [y]) = forms xs ++ (form y.d.length ++ y.d) := by simp [forms]
/-- A list of bytes in a block of bytes from base on. -/
def ElAt (w : World) (base : Nat) (y : SlR) : Prop := Rd V8 w y.p y.cap y.d ∧ ∀ a, y.p = some a → base ≤ a.block ∧ ∃ C, w.heap[a.block]? = some (.cells C 5 (0, 0))
theorem ElAt.mod {S : List Nat} {w w' : World} {base : Nat} {y : SlR} (h : ElAt w base y) (hm : Mod S w w') (hs : ∀ a, y.p = some a → a.block ∉ S) : ElAt w' base y :=
  ⟨h.1.mod hm (fun _ a ha => hs a ha), fun a ha => ⟨(h.2 a ha).1, by obtain ⟨C, hC⟩ := (h.2 a ha).2; exact ⟨C, hm.get hC (hs a ha)⟩⟩⟩
/-- What holds behind some of the lists. -/
structure LsI (B g : Nat) (v : Value) (R : Rr) (base N : Nat) (xs : List SlR) (R1 : Rr) (w1 : World) : Prop where
  ir : IsR w1 B g v R1
  b : R1.b = R.b
  on : R.at_ ≤ R1.at_
  el : ∀ y ∈ xs, ElAt w1 base y
  tx : R1.e = 0 → R.b.take R1.at_ = R.b.take R.at_ ++ (form N ++ forms xs)
theorem ne_type {w : World} {a b : Nat} {C C' : Array Value} {t t' : TypeId} {fr fr' : Nat × Nat} (h : w.heap[a]? = some (.cells C t fr)) (h' : w.heap[b]? = some (.cells C' t' fr')) (ht : t ≠ t') : a ≠ b := by
  rintro rfl
  rw [h] at h'; injection h' with h'; injection h' with _ h5 _
  exact ht h5
/-- A list of lists of bytes, off a reader. -/
theorem takes_any (B g : Nat) (v : Value) (R : Rr) (w : World) (h : IsR w B g v R) (he : R.e = 0) (m : Int) :
    Calls Try.prog 77 #[.pointer (some ⟨g, 0, none⟩), .int .i64 m, .func (.func 78) #[] #[]] w fun e w' => ∃ r xs R', e = .returned r ∧ LsI B g v R w.heap.size xs.length xs R' w' ∧ Mod [g] w w' ∧
      ((R'.e = 0 ∧ OwnS w' w.heap.size r xs) ∨ (R'.e ≠ 0 ∧ r = .slice none 0 0)) := by
  have hgl := h.lt
  have hvl := h.own_lt
  refine (listSl_any B g v R w h m 78 #[] takeBytesCall [g] (by simpa using hgl) (fun xs R1 w1 => LsI B g v R w.heap.size (R.count m).2 xs R1 w1) ?_ ?_ ?_ ?_).mono ?_
  · intro w1 hi hm
    refine ⟨hi, ?_, ?_, by simp, ?_⟩
    · unfold Rr.count; split
      · rfl
      · split <;> rfl
    · unfold Rr.count; split
      · exact Nat.le_refl _
      · split
        · exact Nat.le_refl _
        · exact Nat.le_add_right _ _
    · intro h0
      unfold Rr.count at h0 ⊢
      rw [if_neg (by simpa using he)] at h0 ⊢
      split at h0
      · rename_i er hp
        exact absurd h0 (e_manyP_err _ _ _ hp)
      · rename_i n c hp
        simp only [hp]
        rw [List.take_add, numP_form (manyP_ok hp).1]
        simp [forms]
  · intro _ _ _ hI; exact hI.ir
  · intro xs R1 w1 w2 T hI hm hT hty
    refine ⟨hI.ir.mod hm (fun hx => by have := hT _ hx; omega) (fun x hx hv => by have := hT _ hx; have := hvl _ hv; omega), hI.b, hI.on, fun y hy => (hI.el y hy).mod hm (fun a ha hx => ?_), hI.tx⟩
    obtain ⟨C, hC⟩ := ((hI.el y hy).2 a ha).2
    obtain ⟨C2, hC2⟩ := hty _ hx
    exact ne_type hC hC2 (by decide) rfl
  · intro xs R1 w1 hI he1 hlt hm
    refine (takeBytes_any B g v R1 w1 hI.ir).mono ?_
    rintro e w2 ⟨r, rfl, ho, hi, hm2⟩
    obtain ⟨p, cap, hr, hrd, hf⟩ := ho.rd
    obtain ⟨x, hx⟩ : ∃ x, x = (R1.tk [] (bytesP 5)).2 := ⟨_, rfl⟩
    have hk := tk_keeps R1 [] (bytesP 5)
    refine ⟨⟨p, cap, (R1.tk [] (bytesP 5)).2⟩, (R1.tk [] (bytesP 5)).1, by rw [hr], ⟨hi, by rw [hk.1, hI.b], Nat.le_trans hI.on hk.2, fun y hy => ?_, fun h0 => ?_⟩, hm2⟩
    · rcases List.mem_append.1 hy with hy | hy
      · exact (hI.el y hy).mod hm2 (fun a ha hx => by rw [List.mem_singleton] at hx; have := ((hI.el y hy).2 a ha).1; omega)
      · rw [List.mem_singleton] at hy
        subst hy
        refine ⟨hrd, fun a ha => ⟨Nat.le_trans hm.size (hf a ha), ?_⟩⟩
        have ha : p = some a := ha
        exact ho.type a.block (by rw [hr, ha]; rfl)
    · obtain ⟨c, hpc, hRc⟩ := tk_ok (z := []) he1 h0 (e_bytesP_err 5)
      have h8 := (bytesP_form hpc).1
      rw [forms_snoc]
      rw [hRc]
      show R.b.take (R1.at_ + c) = _
      rw [← hI.b, List.take_add, ← h8, hI.b, hI.tx he1]
      simp
  · rintro e w' ⟨r, xs, R', rfl, hI, hm, hxn, hx⟩
    rcases hx with ⟨h0, hn, ho⟩ | ⟨h0, hr⟩
    · refine ⟨r, xs, R', rfl, by rw [hn]; exact hI, hm.mono (fun x hx => .inl (by simpa using hx)), .inl ⟨h0, ho⟩⟩
    · exact ⟨r, xs, R', rfl, ⟨hI.ir, hI.b, hI.on, hI.el, fun h => absurd h h0⟩, hm.mono (fun x hx => .inl (by simpa using hx)), .inr ⟨h0, hr⟩⟩
end Go.Proofs.Ytnmcbdppbpfegaa
