/- The reference's Sides, Texts, Check. Conditions: the tables lie in their variables; fewer than 2^42 bytes a leaf. -/
import Derived.Test.YtbbobpjcbnfpfaaDoorTrRef
import Derived.Test.YtbbobpjcbnfpfaaDoorTrCheck
import Derived.Test.YtbbobpjcbnfpfaaDoorOwnE
import Derived.StillTailTactics
namespace Go.Proofs.YtbbobpjcbnfpfaaDoor
open Go.RowKit
attribute [local go_sem high] one8 st8 cm8 b_and8 b_and8r b_and8l b_or8 b_or8r b_or8l b_xor8 b_xor8r b_xor8l b_andNot8 b_andNot8r b_andNot8l b_add8 b_add8r b_add8l b_sub8 b_sub8r b_sub8l b_mul8 b_mul8r b_mul8l b_eql8 b_eql8r b_eql8l b_neq8 b_neq8r b_neq8l b_lss8 b_lss8r b_lss8l b_leq8 b_leq8r b_leq8l b_gtr8 b_gtr8r b_gtr8l b_geq8 b_geq8r b_geq8l b_quo8r b_rem8r b_shl8r b_shr8r b_shl8l b_shr8l u_xor8 g_eql8 g_neq8 g_eql8' g_neq8' one32 st32 cm32 b_and32 b_and32r b_and32l b_or32 b_or32r b_or32l b_xor32 b_xor32r b_xor32l b_andNot32 b_andNot32r b_andNot32l b_add32 b_add32r b_add32l b_sub32 b_sub32r b_sub32l b_mul32 b_mul32r b_mul32l b_eql32 b_eql32r b_eql32l b_neq32 b_neq32r b_neq32l b_lss32 b_lss32r b_lss32l b_leq32 b_leq32r b_leq32l b_gtr32 b_gtr32r b_gtr32l b_geq32 b_geq32r b_geq32l b_quo32r b_rem32r b_shl32r b_shr32r b_shl32l b_shr32l u_xor32 g_eql32 g_neq32 g_eql32' g_neq32' one64 st64 cm64 b_and64 b_and64r b_and64l b_or64 b_or64r b_or64l b_xor64 b_xor64r b_xor64l b_andNot64 b_andNot64r b_andNot64l b_add64 b_add64r b_add64l b_sub64 b_sub64r b_sub64l b_mul64 b_mul64r b_mul64l b_eql64 b_eql64r b_eql64l b_neq64 b_neq64r b_neq64l b_lss64 b_lss64r b_lss64l b_leq64 b_leq64r b_leq64l b_gtr64 b_gtr64r b_gtr64l b_geq64 b_geq64r b_geq64l b_quo64r b_rem64r b_shl64r b_shr64r b_shl64l b_shr64l u_xor64 g_eql64 g_neq64 g_eql64' g_neq64' c_u8_u8 c_u8_u32 c_u8_u64 c_i_u8 c_u32_u8 c_u32_u32 c_u32_u64 c_i_u32 c_u64_u8 c_u64_u32 c_u64_u64 c_i_u64 c_u8_i c_u32_i
attribute [local go_sem ↓] ce8 ce32 ce64
attribute [local go_sem ↓] sliced_slp loadO26 storeO26
def VB (b : Bool) : Value := .bool b
theorem oneB (b : Bool) : (VB b).oneCell' = true := rfl
theorem infoB : (Tryd.prog.info? 4).map (fun i => (i.zero, i.size, i.bytes)) = some (some (.bool false), 1, 1) := by kernel_rfl
theorem infoSl : (Tryd.prog.info? 22).map (fun i => (i.zero, i.size, i.bytes)) = some (some (.slice none 0 0), 1, 24) := by kernel_rfl
theorem oneSl (x : SlR) : (SlR.v x).oneCell' = true := rfl
abbrev OwnB (w : World) (B : Nat) (v : Value) (l : List Bool) : Prop := OwnE 4 VB w B v l
abbrev OwnL (w : World) (B : Nat) (v : Value) (l : List SlR) : Prop := OwnE 22 SlR.v w B v l
/-- Sides are handed back. -/
def SidesPost (l : List Bool) (w : World) (e : Ending) (w' : World) : Prop := ∃ v, e = .returned v ∧ OwnB w' w.heap.size v l ∧ Mod [] w w'
theorem pushB {ops : Array Oper} {rest : List Oper} {o : Oper} {a : Act} {Q : Exit → Act → World → Prop} {w : World} (hgd : o.guard = none) (s x : Operand)
    (ho : o.op = .call { callee := .builtin .append, args := #[s, x], argTypes := #[57, 57] }) (B : Nat) (v : Value) (l : List Bool) (hown : OwnB w B v l) (hs : a.eval s = v) (g : Nat) (b : Bool) (hx : a.eval x = .slice (some ⟨g, 0, none⟩) 1 1)
    (hg : w.heap[g]? = some (.cells #[VB b] 4)) (hl : l.length ≤ 4294967296) (hbase : B ≤ w.heap.size)
    (h : ∀ v' w', OwnB w' B v' (l ++ [b]) → w.grownBy w' v.ownBlock → wpList Tryd.prog ops Q rest (a.put o.dst v') w') : wpList Tryd.prog ops Q (o :: rest) a w :=
  wpList_pushE (.bool false) 1 Tryd.underlying57 infoB rfl oneB hgd s x ho B v l hown hs g 0 1 1 [b] hx rfl (range_blk hg 0 _ (fun j v hv => by simpa using hv)) (by unfold maxLen; simp; omega) (by simp; omega) hbase h
theorem ownE_mono {α : Type} {E : TypeId} {f : α → Value} {w : World} {B B' : Nat} {v : Value} {l : List α} (h : OwnE E f w B v l) (hb : B' ≤ B) : OwnE E f w B' v l := by
  refine ⟨h.1, ?_⟩
  rcases h.2 with h0 | ⟨g, cap, cur, hv, hB, hg⟩
  · exact .inl h0
  · exact .inr ⟨g, cap, cur, hv, by omega, hg⟩
theorem own_len {w : World} {B : Nat} {v : Value} {l : List Bool} (h : OwnB w B v l) : ∃ p c, v = .slice p l.length c ∧ Rd VB w p c l := by
  obtain ⟨p, c, h1, h2, _⟩ := h.rd
  exact ⟨p, c, h1, h2⟩
set_option maxRecDepth 100000 in
theorem rsides_any (N : Nat) : ∀ (size i : Nat) (w : World), size ≤ N → 1 ≤ size → size ≤ 1099511627776 → i ≤ 1099511627776 →
    Calls Tryd.prog 36 #[.int .i64 size, .int .i64 i] w (SidesPost (sides size i) w) := by
  induction N with
  | zero => intro size i w h0 h1; omega
  | succ N ih =>
    intro size i w hN h1 hs hi
    by_cases h0 : size ≤ N
    · exact ih size i w h0 h1 hs hi
    by_cases hs1 : size = 1
    · subst hs1
      have he : sides 1 i = [] := by rw [sides, if_pos (Nat.le_refl 1)]
      rw [he]
      clear ih he
      go_enter Tryd.func36, Tryd.ntmps36
      go_wp2_with fail
      go_ret
      exact ⟨_, rfl, OwnE.nil _ _ _ _, Mod.refl _ _⟩
    · have hk := fun W => below_any size W (by omega) (by omega)
      have hll := sides_length 40 size i (by omega)
      obtain ⟨K, hK⟩ : ∃ K, K = half size := ⟨_, rfl⟩
      have hK0 : 0 < K := by rw [hK]; exact half_pos size
      have hK1 : K < size := by rw [hK]; exact half_lt size (by omega)
      have HK := Lib.hid hk
      rw [← hK] at HK
      have hb : decide ((size : Int) = 1) = false := by simp; omega
      by_cases hik : i < K
      · have he : sides size i = sides K i ++ [true] := by rw [sides, if_neg (by omega), ← hK, if_pos hik]
        have HA := Lib.hid (ih K i w (by omega) (by omega) (by omega) hi)
        have hd : decide ((i : Int) < (K : Int)) = true := by simp; omega
        rw [he, List.length_append] at hll
        rw [he]
        generalize sides K i = S at *
        clear ih he hk hK
        go_enter Tryd.func36, Tryd.ntmps36
        go_wp2_with (go_at_call 65; refine (HK.out _).mono ?_; rintro e w' ⟨rfl, rfl⟩)
        refine HA.out.mono ?_
        rintro e w1 ⟨v, rfl, ho, m1⟩
        have HO := Lib.hid ho
        have M1 := Lib.hid m1
        clear ho m1
        go_wp2_with (at_builtin; with_reducible refine froz_app _ _ rfl ?_)
        unfold Froz
        refine pushB rfl _ _ rfl w.heap.size v S (HO.out.alloc _) rfl w1.heap.size true rfl (hp_new _ _ _ rfl) (by omega) (by have := M1.out.size; simp; omega) ?_
        intro v' w5 ho5 hg5
        have HO5 := Lib.hid ho5
        have M5 := Lib.hid ((M1.out.alloc _).of_grown hg5 (fun g hg => .inr (HO.out.row g hg)))
        clear ho5 hg5
        go_wp2_with fail
        go_ret
        exact ⟨_, rfl, HO5.out, M5.out⟩
      · have he : sides size i = sides (size - K) (i - K) ++ [false] := by rw [sides, if_neg (by omega), ← hK, if_neg hik]
        have HA := Lib.hid (ih (size - K) (i - K) w (by omega) (by omega) (by omega) (by omega))
        have hd : decide ((i : Int) < (K : Int)) = false := by simp; omega
        have g1 : (size : Int) - (K : Int) = ((size - K : Nat) : Int) := by omega
        have g2 : (i : Int) - (K : Int) = ((i - K : Nat) : Int) := by omega
        rw [he, List.length_append] at hll
        rw [he]
        generalize sides (size - K) (i - K) = S at *
        clear ih he hk hK
        go_enter Tryd.func36, Tryd.ntmps36
        go_wp2_with (go_at_call 65; refine (HK.out _).mono ?_; rintro e w' ⟨rfl, rfl⟩)
        refine HA.out.mono ?_
        rintro e w1 ⟨v, rfl, ho, m1⟩
        have HO := Lib.hid ho
        have M1 := Lib.hid m1
        clear ho m1
        go_wp2_with (at_builtin; with_reducible refine froz_app _ _ rfl ?_)
        unfold Froz
        refine pushB rfl _ _ rfl w.heap.size v S (HO.out.alloc _) rfl w1.heap.size false rfl (hp_new _ _ _ rfl) (by omega) (by have := M1.out.size; simp; omega) ?_
        intro v' w5 ho5 hg5
        have HO5 := Lib.hid ho5
        have M5 := Lib.hid ((M1.out.alloc _).of_grown hg5 (fun g hg => .inr (HO.out.row g hg)))
        clear ho5 hg5
        go_wp2_with fail
        go_ret
        exact ⟨_, rfl, HO5.out, M5.out⟩
/-- A list of lists grows: a list of bytes of the call's own does not turn. -/
theorem Own.grownL {w w' : World} {B B' : Nat} {x v : Value} {d : Bs} {l : List SlR} (h : Own w B x d) (ho : OwnL w B' v l) (hg : w.grownBy w' v.ownBlock) : Own w' B x d := by
  refine ⟨h.1, ?_⟩
  rcases h.2 with h0 | ⟨g, cap, cur, hv, hB, hb, hn⟩
  · exact .inl h0
  · refine .inr ⟨g, cap, cur, hv, hB, (hg.block g (lt_of_block hb) ?_).trans hb, hn⟩
    intro hx
    rcases ho.2 with ⟨rfl, _⟩ | ⟨g', cap', cur', rfl, _, hb', _⟩
    · cases hx
    · injection hx with hx
      subst hx
      rw [hb] at hb'
      injection hb' with hb'
      injection hb' with _ h2 _
      exact absurd h2 (by decide)
theorem pushL {ops : Array Oper} {rest : List Oper} {o : Oper} {a : Act} {Q : Exit → Act → World → Prop} {w : World} (hgd : o.guard = none) (s x : Operand)
    (ho : o.op = .call { callee := .builtin .append, args := #[s, x], argTypes := #[25, 25] }) (B : Nat) (v : Value) (l : List SlR) (hown : OwnL w B v l) (hs : a.eval s = v) (g : Nat) (y : SlR) (hx : a.eval x = .slice (some ⟨g, 0, none⟩) 1 1)
    (hg : w.heap[g]? = some (.cells #[y.v] 22)) (hl : l.length ≤ 4294967296) (hbase : B ≤ w.heap.size)
    (h : ∀ v' w', OwnL w' B v' (l ++ [y]) → w.grownBy w' v.ownBlock → wpList Tryd.prog ops Q rest (a.put o.dst v') w') : wpList Tryd.prog ops Q (o :: rest) a w :=
  wpList_pushE (.slice none 0 0) 24 Tryd.underlying25 infoSl rfl oneSl hgd s x ho B v l hown hs g 0 1 1 [y] hx rfl (range_blk hg 0 _ (fun j v hv => by simpa using hv)) (by unfold maxLen; simp; omega) (by simp; omega) hbase h
theorem OwnL.one {w : World} {B : Nat} (g : Nat) (y : SlR) (hg : w.heap[g]? = some (.cells #[y.v] 22)) (hB : B ≤ g) : OwnL w B (.slice (some ⟨g, 0, none⟩) 1 1) [y] := by
  refine ⟨by simp, .inr ⟨g, 1, #[y.v], rfl, hB, hg, ?_, ?_, ?_, ?_⟩⟩
  · simp
  · unfold maxLen; omega
  · simp
  · simp
/-- Texts are handed back: a list of lists of the call's own, each of them the call's own. -/
structure TextsAt (w : World) (B : Nat) (v : Value) (ys : List SlR) (ts : List Bs) : Prop where
  own : OwnL w B v ys
  each : ∀ y ∈ ys, Own w B y.v y.d
  is : ds ys = ts
namespace TextsAt
variable {a w : World} {B : Nat} {v : Value} {ys : List SlR} {ts : List Bs}
theorem mod0 (h : TextsAt a B v ys ts) (m : Mod [] a w) : TextsAt w B v ys ts := ⟨h.own.mod m (by simp), fun y hy => (h.each y hy).mod0 m, h.is⟩
theorem len (h : TextsAt w B v ys ts) : ys.length = ts.length := by rw [← h.is]; simp
theorem mono {B' : Nat} (h : TextsAt w B v ys ts) (hb : B' ≤ B) : TextsAt w B' v ys ts := ⟨ownE_mono h.own hb, fun y hy => (h.each y hy).mono hb, h.is⟩
end TextsAt
def TextsPost (ts : List Bs) (w : World) (e : Ending) (w' : World) : Prop := ∃ v ys, e = .returned v ∧ TextsAt w' w.heap.size v ys ts ∧ Mod [] w w'
end Go.Proofs.YtbbobpjcbnfpfaaDoor
namespace Go.Proofs.YtbbobpjcbnfpfaaDoor
open Go.RowKit
attribute [local go_sem high] one8 st8 cm8 b_and8 b_and8r b_and8l b_or8 b_or8r b_or8l b_xor8 b_xor8r b_xor8l b_andNot8 b_andNot8r b_andNot8l b_add8 b_add8r b_add8l b_sub8 b_sub8r b_sub8l b_mul8 b_mul8r b_mul8l b_eql8 b_eql8r b_eql8l b_neq8 b_neq8r b_neq8l b_lss8 b_lss8r b_lss8l b_leq8 b_leq8r b_leq8l b_gtr8 b_gtr8r b_gtr8l b_geq8 b_geq8r b_geq8l b_quo8r b_rem8r b_shl8r b_shr8r b_shl8l b_shr8l u_xor8 g_eql8 g_neq8 g_eql8' g_neq8' one32 st32 cm32 b_and32 b_and32r b_and32l b_or32 b_or32r b_or32l b_xor32 b_xor32r b_xor32l b_andNot32 b_andNot32r b_andNot32l b_add32 b_add32r b_add32l b_sub32 b_sub32r b_sub32l b_mul32 b_mul32r b_mul32l b_eql32 b_eql32r b_eql32l b_neq32 b_neq32r b_neq32l b_lss32 b_lss32r b_lss32l b_leq32 b_leq32r b_leq32l b_gtr32 b_gtr32r b_gtr32l b_geq32 b_geq32r b_geq32l b_quo32r b_rem32r b_shl32r b_shr32r b_shl32l b_shr32l u_xor32 g_eql32 g_neq32 g_eql32' g_neq32' one64 st64 cm64 b_and64 b_and64r b_and64l b_or64 b_or64r b_or64l b_xor64 b_xor64r b_xor64l b_andNot64 b_andNot64r b_andNot64l b_add64 b_add64r b_add64l b_sub64 b_sub64r b_sub64l b_mul64 b_mul64r b_mul64l b_eql64 b_eql64r b_eql64l b_neq64 b_neq64r b_neq64l b_lss64 b_lss64r b_lss64l b_leq64 b_leq64r b_leq64l b_gtr64 b_gtr64r b_gtr64l b_geq64 b_geq64r b_geq64l b_quo64r b_rem64r b_shl64r b_shr64r b_shl64l b_shr64l u_xor64 g_eql64 g_neq64 g_eql64' g_neq64' c_u8_u8 c_u8_u32 c_u8_u64 c_i_u8 c_u32_u8 c_u32_u32 c_u32_u64 c_i_u32 c_u64_u8 c_u64_u32 c_u64_u64 c_i_u64 c_u8_i c_u32_i
attribute [local go_sem ↓] ce8 ce32 ce64
attribute [local go_sem ↓] sliced_slp loadO26 storeO26
theorem OwnB.grownL {w w' : World} {B B' : Nat} {x v : Value} {d : List Bool} {l : List SlR} (h : OwnB w B x d) (ho : OwnL w B' v l) (hg : w.grownBy w' v.ownBlock) : OwnB w' B x d := by
  refine ⟨h.1, ?_⟩
  rcases h.2 with h0 | ⟨g, cap, cur, hv, hB, hb, hn⟩
  · exact .inl h0
  · refine .inr ⟨g, cap, cur, hv, hB, (hg.block g (lt_of_block hb) ?_).trans hb, hn⟩
    intro hx
    rcases ho.2 with ⟨rfl, _⟩ | ⟨g', cap', cur', rfl, _, hb', _⟩
    · cases hx
    · injection hx with hx
      subst hx
      rw [hb] at hb'
      injection hb' with hb'
      injection hb' with _ h2 _
      exact absurd h2 (by decide)
theorem own_v {w : World} {B : Nat} {v : Value} {d : Bs} (h : Own w B v d) : ∃ x : SlR, v = x.v ∧ x.d = d := by
  obtain ⟨p, c, rfl, _⟩ := h.rd
  exact ⟨⟨p, c, d⟩, rfl, rfl⟩
theorem own_rd {w : World} {B : Nat} {x : SlR} (h : Own w B x.v x.d) : Rd V8 w x.p x.cap x.d := by
  obtain ⟨p, c, h1, h2, _⟩ := h.rd
  unfold SlR.v at h1
  injection h1 with h1 _ h3
  subst h1 h3
  exact h2
theorem textsT_get (hf : Bs → Bs) (t : Bs) (l : List (Bool × Bs)) (ys : List SlR) (h : ds ys = textsT hf t l) : ∃ y, ys[l.length]? = some y ∧ hf y.d = climb hf (hf t) l := by
  have hl : ys.length = l.length + 1 := by
    have := congrArg List.length h
    rw [textsT_length] at this
    simpa using this
  have hlast := textsT_last (hf := hf) t l
  rw [← h] at hlast
  refine ⟨ys[l.length]'(by omega), List.getElem?_eq_getElem _, ?_⟩
  rw [← hlast]
  congr 1
  rw [List.getLast?_eq_getElem?]
  simp [hl]
theorem textsT_small (hf : Bs → Bs) (hlen : ∀ d, (hf d).length = 32) (l : List (Bool × Bs)) : ∀ (t : Bs) (m : Nat), t.length ≤ m → 65 ≤ m → (∀ x ∈ l, x.2.length = 32) → ∀ y ∈ textsT hf t l, y.length ≤ m := by
  induction l with
  | nil => intro t m ht _ _ y hy; simp [textsT] at hy; subst hy; exact ht
  | cons x l ih =>
    obtain ⟨r, p⟩ := x
    intro t m ht hm hx y hy
    simp only [textsT, List.mem_cons] at hy
    rcases hy with rfl | hy
    · exact ht
    · refine ih _ m ?_ hm (fun z hz => hx z (by simp [hz])) y hy
      have h1 := hlen t
      have h2 : p.length = 32 := hx (r, p) (by simp)
      split <;> simp <;> omega
set_option maxRecDepth 100000 in
set_option maxHeartbeats 1000000 in
theorem rtexts_any {hf : Bs → Bs} (size i : Nat) (leaf : Bs) (q : Option Addr) (k d : Nat) (path : List Bs) (p : Option Addr) (n c : Nat) (w : World) (h1 : 1 ≤ size) (h2 : size ≤ 1099511627776) (hi : i ≤ 1099511627776)
    (hk : k = leaf.length) (hq : Rd V8 w q d leaf) (hl : leaf.length ≤ 4398046511104) (hn : n = path.length) (hr : RdD w p c path) (ap : All32 path) (hlen : path.length = (sides size i).length) (H : Hs hf w) (R : Rf w) :
    Calls Tryd.prog 37 #[.int .i64 size, .int .i64 i, .slice q k d, .slice p n c] w (TextsPost (textsT hf (0 :: leaf) ((sides size i).zip path)) w) := by
  have hS40 := sides_length 40 size i (by omega)
  have HT := Lib.hid (leafText_any q d k leaf w hk hq (by omega))
  have HS := Lib.hid (fun W => rsides_any size size i W (Nat.le_refl _) h1 h2 hi)
  obtain ⟨S, hS⟩ : ∃ S, S = sides size i := ⟨_, rfl⟩
  rw [← hS] at hlen hS40 HS ⊢
  have HH := Lib.hid H
  have HRf := Lib.hid R
  have HR := Lib.hid hr
  have HAP := Lib.hid ap
  have HLEN := Lib.hid hlen
  have hnS : n = S.length := by omega
  have hcap := hr.le
  have HN := Lib.hid hnS
  clear H R hr ap hlen hS hn hq hk hnS
  go_enter Tryd.func37, Tryd.ntmps37
  go_wp2_with fail
  refine HT.out.mono ?_
  rintro e w1 ⟨v, rfl, ho, m1⟩
  obtain ⟨p0, c0, rfl, _, _⟩ := ho.rd
  have HO := Lib.hid ho
  have M1 := Lib.hid m1
  clear ho m1
  go_wp2_with fail
  have M2 := Lib.hid (M1.out.alloc (.cells #[.slice p0 (leaf.length + 1) c0] 22))
  have HT2 := Lib.hid (show TextsAt (w1.alloc (.cells #[.slice p0 (leaf.length + 1) c0] 22)) w.heap.size (.slice (some ⟨w1.heap.size, 0, none⟩) 1 1) [⟨p0, c0, 0 :: leaf⟩] [0 :: leaf] from
    ⟨OwnL.one _ ⟨p0, c0, 0 :: leaf⟩ (hp_new _ _ _ rfl) M1.out.size, fun y hy => by rw [List.mem_singleton] at hy; subst hy; exact HO.out.alloc _, rfl⟩)
  clear HO
  refine (HS.out _).mono ?_
  rintro e w3 ⟨vs, rfl, hsd, m3⟩
  obtain ⟨ps, cs, rfl, hsr⟩ := own_len hsd
  have HSD := Lib.hid (ownE_mono (B' := w.heap.size) hsd (by have := M1.out.size; simp; omega))
  have HT3 := Lib.hid (HT2.out.mod0 m3)
  have M3 := Lib.hid (M2.out.trans0 m3)
  clear HT2 M2 m3 hsd hsr
  go_wp2_with fail
  go_loopw [9, 10, 12] (fun v9 lv iv wr => ∃ (j : Nat) (ys : List SlR) (vl : Value), j ≤ S.length ∧ iv = .int .i64 j ∧ lv = vl ∧ TextsAt wr w.heap.size vl ys (textsT hf (0 :: leaf) ((S.zip path).take j)) ∧ OwnB wr w.heap.size (.slice ps S.length cs) S ∧ Mod [] w wr) (fun _ _ iv _ => S.length - (intOf iv).toNat)
  case atStart => exact ⟨0, [⟨p0, c0, 0 :: leaf⟩], _, by omega, rfl, rfl, by rw [List.take_zero]; exact HT3.out, HSD.out, M3.out⟩
  case round =>
    clear HT3 HSD M3
    obtain ⟨j, ys, vl, hj, rfl, rfl, hty, hsd, hm⟩ := hrel
    have HTY := Lib.hid hty
    have HSD := Lib.hid hsd
    have HM := Lib.hid hm
    obtain ⟨_, _, hse, hsr⟩ := own_len hsd
    injection hse with hs1 _ hs3
    subst hs1 hs3
    have hzl : (S.zip path).length = S.length := by have := HLEN.out; simp; omega
    have hys : ys.length = j + 1 := by
      have := hty.len
      rw [textsT_length, List.length_take, hzl] at this
      omega
    have HYS := Lib.hid hys
    obtain ⟨pv, cv, hlv, hlrd, _⟩ := hty.own.rd
    subst hlv
    rw [hys]
    have HLRD := Lib.hid hlrd
    have HSR := Lib.hid hsr
    clear hty hsd hm hlrd hsr hys
    by_cases hlt : j < S.length
    · obtain ⟨y, hy, hyc⟩ := textsT_get hf (0 :: leaf) ((S.zip path).take j) ys HTY.out.is
      have hlj : ((S.zip path).take j).length = j := by rw [List.length_take, hzl]; omega
      rw [hlj] at hy
      obtain ⟨b1, o1, rfl, hc1⟩ := HLRD.out.cell j y hy
      obtain ⟨r, hrj⟩ : ∃ r, S[j]? = some r := ⟨S[j], List.getElem?_eq_getElem hlt⟩
      obtain ⟨b2, o2, rfl, hc2⟩ := HSR.out.cell j r hrj
      obtain ⟨x, hxj⟩ : ∃ x, path[j]? = some x := ⟨path[j]'(by have := HLEN.out; omega), List.getElem?_eq_getElem _⟩
      have hx32 : x.length = 32 := HAP.out x (List.mem_of_getElem? hxj)
      obtain ⟨b3, o3, rfl, _⟩ := HR.out.elem dgc_len j x hxj
      have hyo : Own wr w.heap.size y.v y.d := HTY.out.each y (List.mem_of_getElem? hy)
      have hysm : y.d.length ≤ 4398046511105 := textsT_small hf HH.out.len ((S.zip path).take j) (0 :: leaf) 4398046511105 (by simp; omega) (by omega) (fun z hz => by
        have h := List.mem_of_mem_take hz
        exact HAP.out _ (List.of_mem_zip h).2) y.d (by rw [← HTY.out.is]; exact List.mem_map.2 ⟨y, List.mem_of_getElem? hy, rfl⟩)
      unfold VB at hc2
      unfold SlR.v at hc1
      have HYC := Lib.hid hyc
      have HY := Lib.hid hy
      have HRJ := Lib.hid hrj
      have HXJ := Lib.hid hxj
      have HX32 := Lib.hid hx32
      have HYO := Lib.hid (own_rd hyo)
      have f1 : (0 : Int) ≤ (j : Int) := by omega
      have f2 : (j : Int) < ((j + 1 : Nat) : Int) := by omega
      have f3 : (j : Int) < (S.length : Int) := by omega
      have f4 : (j : Int) < (n : Int) := by have := HN.out; omega
      clear hyc hy hrj hxj hx32 hyo hlj
      go_wp2_with fail
      refine (rsum (HH.out.mod0 HM.out) (HRf.out.mod0 HM.out) y.p y.cap _ y.d rfl HYO.out (by omega)).mono ?_
      rintro e w5 ⟨rfl, m5⟩
      have hdl := HH.out.len y.d
      rw [HYC.out] at hdl ⊢
      obtain ⟨D, hD⟩ : ∃ D, D = climb hf (hf (0 :: leaf)) ((S.zip path).take j) := ⟨_, rfl⟩
      rw [← hD] at hdl ⊢
      have HD := Lib.hid hD
      have HDL := Lib.hid hdl
      have hS := storeNewD w5 D hdl
      have m5' := m5.alloc (.cells (D.map V8).toArray 24)
      have HM5 := Lib.hid (HM.out.trans0 m5')
      have HTY5 := Lib.hid (HTY.out.mod0 m5')
      have HSD5 := Lib.hid (HSD.out.mod m5' (by simp))
      have hc5 : (w5.alloc (.cells (D.map V8).toArray 24)).cell? ⟨b2, o2 + j, none⟩ = some (.bool r) := by
        rw [World.cell?_of_block (w := wr) (m5'.block b2 (block_lt_of_cell hc2) (by simp))]; exact hc2
      have hL1 := loadDv (w := (w5.alloc (.cells (D.map V8).toArray 24)).drew) D hdl (hp_drew (hp_new _ _ _ rfl))
      have hL2 := loadD_at (w := (w5.alloc (.cells (D.map V8).toArray 24)).drew) (HR.out.mod0 (HM5.out.drew)) (i := j) x HXJ.out HX32.out
      clear hD hdl m5 m5' hc1 hc2
      cases r
      · go_wp2_with fail
        clear hS
        go_region_law (go_simp; go_at_call 64; refine (nodeText_any x D HX32.out HDL.out _).mono ?_
                       rintro _ w6 ⟨v6, rfl, ho6, m6⟩
                       obtain ⟨p6, c6, rfl, _, _⟩ := ho6.rd
                       have HO6 := Lib.hid ho6
                       have M6 := Lib.hid m6
                       clear ho6 m6)
        all_goals
          clear hL1 hL2 hc5
          have HM6 := Lib.hid (HM5.out.drew.trans0 M6.out)
          have HTY6 := Lib.hid (HTY5.out.mod0 ((Mod.refl [] _).drew.trans0 M6.out))
          have HSD6 := Lib.hid (HSD5.out.mod ((Mod.refl [] _).drew.trans0 M6.out) (by simp))
          have HO6' := Lib.hid (HO6.out.mono (B' := w.heap.size) HM5.out.drew.size)
          clear HO6 M6 HTY5 HSD5 HM5
          go_wp2_with (at_builtin; with_reducible refine froz_app _ _ rfl ?_)
          unfold Froz
          have hown := HTY6.out.own
          rw [HYS.out] at hown
          refine pushL rfl _ _ rfl w.heap.size _ ys (hown.alloc _) rfl w6.heap.size ⟨p6, c6, 1 :: (x ++ D)⟩ rfl ((hp_new _ _ _ rfl).trans (by simp [SlR.v])) (by rw [HYS.out]; omega) (by have := HM6.out.size; simp; omega) ?_
          intro v8 w8 ho8 hg8
          have HTY8 := Lib.hid (show TextsAt w8 w.heap.size v8 (ys ++ [⟨p6, c6, 1 :: (x ++ D)⟩]) (textsT hf (0 :: leaf) ((S.zip path).take (j + 1))) from by
            refine ⟨ho8, fun y' hy' => ?_, ?_⟩
            · rcases List.mem_append.1 hy' with hy' | hy'
              · exact ((HTY6.out.each y' hy').alloc _).grownL (hown.alloc _) hg8
              · rw [List.mem_singleton] at hy'
                subst hy'
                exact (HO6'.out.alloc _).grownL (hown.alloc _) hg8
            · have hz : (S.zip path).take (j + 1) = (S.zip path).take j ++ [(false, x)] := by
                rw [List.take_add_one, show (S.zip path)[j]? = some (false, x) from List.getElem?_zip_eq_some.2 ⟨HRJ.out, HXJ.out⟩]; rfl
              rw [hz, textsT_snoc, ← HTY6.out.is, ← HD.out]
              simp [ds])
          have HSD8 := Lib.hid (OwnB.grownL (HSD6.out.alloc _) (hown.alloc _) hg8)
          have HM8 := Lib.hid ((HM6.out.alloc _).of_grown hg8 (fun g hg => .inr (hown.row g hg)))
          clear ho8 hg8 hown HTY6 HSD6 HM6 HO6'
          go_wp2_with fail
          go_roundw
          case rel => exact ⟨j + 1, _, _, by omega, by go_num, rfl, HTY8.out, HSD8.out, HM8.out⟩
          case measure => simp [intOf]; omega
      · go_wp2_with fail
        clear hS
        go_region_law (go_simp; go_at_call 64; refine (nodeText_any D x HDL.out HX32.out _).mono ?_
                       rintro _ w6 ⟨v6, rfl, ho6, m6⟩
                       obtain ⟨p6, c6, rfl, _, _⟩ := ho6.rd
                       have HO6 := Lib.hid ho6
                       have M6 := Lib.hid m6
                       clear ho6 m6)
        all_goals
          clear hL1 hL2 hc5
          have HM6 := Lib.hid (HM5.out.drew.trans0 M6.out)
          have HTY6 := Lib.hid (HTY5.out.mod0 ((Mod.refl [] _).drew.trans0 M6.out))
          have HSD6 := Lib.hid (HSD5.out.mod ((Mod.refl [] _).drew.trans0 M6.out) (by simp))
          have HO6' := Lib.hid (HO6.out.mono (B' := w.heap.size) HM5.out.drew.size)
          clear HO6 M6 HTY5 HSD5 HM5
          go_wp2_with (at_builtin; with_reducible refine froz_app _ _ rfl ?_)
          unfold Froz
          have hown := HTY6.out.own
          rw [HYS.out] at hown
          refine pushL rfl _ _ rfl w.heap.size _ ys (hown.alloc _) rfl w6.heap.size ⟨p6, c6, 1 :: (D ++ x)⟩ rfl ((hp_new _ _ _ rfl).trans (by simp [SlR.v])) (by rw [HYS.out]; omega) (by have := HM6.out.size; simp; omega) ?_
          intro v8 w8 ho8 hg8
          have HTY8 := Lib.hid (show TextsAt w8 w.heap.size v8 (ys ++ [⟨p6, c6, 1 :: (D ++ x)⟩]) (textsT hf (0 :: leaf) ((S.zip path).take (j + 1))) from by
            refine ⟨ho8, fun y' hy' => ?_, ?_⟩
            · rcases List.mem_append.1 hy' with hy' | hy'
              · exact ((HTY6.out.each y' hy').alloc _).grownL (hown.alloc _) hg8
              · rw [List.mem_singleton] at hy'
                subst hy'
                exact (HO6'.out.alloc _).grownL (hown.alloc _) hg8
            · have hz : (S.zip path).take (j + 1) = (S.zip path).take j ++ [(true, x)] := by
                rw [List.take_add_one, show (S.zip path)[j]? = some (true, x) from List.getElem?_zip_eq_some.2 ⟨HRJ.out, HXJ.out⟩]; rfl
              rw [hz, textsT_snoc, ← HTY6.out.is, ← HD.out]
              simp [ds])
          have HSD8 := Lib.hid (OwnB.grownL (HSD6.out.alloc _) (hown.alloc _) hg8)
          have HM8 := Lib.hid ((HM6.out.alloc _).of_grown hg8 (fun g hg => .inr (hown.row g hg)))
          clear ho8 hg8 hown HTY6 HSD6 HM6 HO6'
          go_wp2_with fail
          go_roundw
          case rel => exact ⟨j + 1, _, _, by omega, by go_num, rfl, HTY8.out, HSD8.out, HM8.out⟩
          case measure => simp [intOf]; omega
    · have hjj : j = S.length := by omega
      have hd : decide ((j : Int) < (S.length : Int)) = false := by simp; omega
      have HJ := Lib.hid hjj
      clear hjj
      go_wp2_with fail
      go_ret
      refine ⟨_, ys, rfl, ?_, HM.out⟩
      have h := HTY.out
      rw [HYS.out, HJ.out, List.take_of_length_le (by rw [hzl]; omega)] at h
      rw [HJ.out]
      exact h
end Go.Proofs.YtbbobpjcbnfpfaaDoor
