/- What the tree's laws lend: lists, one block each, with ck marks behind. No condition. -/
import Derived.Test.YtbbobpjcbnfpfaaDoorTrLend
import Derived.Test.YtbbobpjcbnfpfaaDoorOwnE
import Derived.Test.YtbbobpjcbnfpfaaDoorTrTexts
import Derived.Deep.RegionLaw
namespace Go.Proofs.YtbbobpjcbnfpfaaDoor
open Go.RowKit
def otherOf (d : List UInt8) : List UInt8 := d.map (· ^^^ 165)
theorem otherOf_length (d : List UInt8) : (otherOf d).length = d.length := by simp [otherOf]
/-- y, in a block of its own with ck marks behind it. -/
def LentAt (ck : Nat) (w : World) (B : Nat) (y : SlR) : Prop := y.cap = y.d.length + ck ∧ ∃ g, y.p = some ⟨g, 0, none⟩ ∧ B ≤ g ∧ w.heap[g]? = some (.cells ((y.d ++ marks ck).map V8).toArray 5 (0, 0))
/-- The whole of it. -/
def wide (ck : Nat) (y : SlR) : SlR := ⟨y.p, y.cap, y.d ++ marks ck⟩
def nilSl : SlR := ⟨none, 0, []⟩
structure Held (ck : Nat) (w : World) (B : Nat) (ys : List SlR) : Prop where
  at_ : ∀ y ∈ ys, LentAt ck w B y
  apart : ys.Pairwise fun a b => a.p ≠ b.p
theorem Held.nil (ck : Nat) (w : World) (B : Nat) : Held ck w B [] := ⟨by simp, List.Pairwise.nil⟩
theorem LentAt.lt {ck : Nat} {w : World} {B : Nat} {y : SlR} (h : LentAt ck w B y) {g : Nat} (hg : y.p = some ⟨g, 0, none⟩) : g < w.heap.size := by
  obtain ⟨_, g', hp, _, hb⟩ := h
  rw [hg] at hp; injection hp with hp; injection hp with hp
  subst hp; exact lt_of_block hb
theorem Held.mod {ck : Nat} {S : List Nat} {a w : World} {B : Nat} {ys : List SlR} (h : Held ck a B ys) (hm : Mod S a w) (hs : ∀ y ∈ ys, ∀ g, y.p = some ⟨g, 0, none⟩ → g ∉ S) : Held ck w B ys :=
  ⟨fun y hy => let ⟨h0, g, h1, h2, h3⟩ := h.at_ y hy; ⟨h0, g, h1, h2, hm.get h3 (hs y hy g h1)⟩, h.apart⟩
theorem Held.mod0 {ck : Nat} {a w : World} {B : Nat} {ys : List SlR} (h : Held ck a B ys) (hm : Mod [] a w) : Held ck w B ys := h.mod hm (by simp)
/-- A block of another type holds none of them. -/
theorem Held.ne {ck : Nat} {w : World} {B : Nat} {ys : List SlR} (h : Held ck w B ys) {b : Nat} {C : Array Value} {t : TypeId} {fr : Nat × Nat} (hb : w.heap[b]? = some (.cells C t fr)) (ht : t ≠ 5) : ∀ y ∈ ys, ∀ g, y.p = some ⟨g, 0, none⟩ → g ≠ b := by
  rintro y hy g hg rfl
  obtain ⟨_, g', hp, _, hb'⟩ := h.at_ y hy
  rw [hg] at hp; injection hp with hp; injection hp with hp
  subst hp
  rw [hb] at hb'
  injection hb' with hb'
  injection hb' with _ h2 _
  exact ht h2
theorem Held.snoc {ck : Nat} {w : World} {B : Nat} {ys : List SlR} (h : Held ck w B ys) {d : List UInt8} {g : Nat} (hg : w.heap[g]? = some (.cells ((d ++ marks ck).map V8).toArray 5)) (hB : B ≤ g) (hn : ∀ y ∈ ys, ∀ g', y.p = some ⟨g', 0, none⟩ → g' ≠ g) :
    Held ck w B (ys ++ [⟨some ⟨g, 0, none⟩, d.length + ck, d⟩]) := by
  refine ⟨fun y hy => ?_, ?_⟩
  · rcases List.mem_append.1 hy with hy | hy
    · exact h.at_ y hy
    · rw [List.mem_singleton] at hy; subst hy
      exact ⟨rfl, g, rfl, hB, hg⟩
  · rw [List.pairwise_append]
    refine ⟨h.apart, List.pairwise_singleton _ _, ?_⟩
    intro a ha b hb
    rw [List.mem_singleton] at hb; subst hb
    intro hp
    exact hn a ha g hp rfl
theorem Held.rd {ck : Nat} {w : World} {B : Nat} {ys : List SlR} (h : Held ck w B ys) : ∀ y ∈ ys, Rd V8 w y.p y.cap y.d := by
  intro y hy
  obtain ⟨h0, g, h1, _, h3⟩ := h.at_ y hy
  rw [h1]
  exact rd_front h3 (by omega)
/-- A list of lists grows: none of them turns. -/
theorem Held.grown {ck : Nat} {α : Type} {f : α → Value} {w w1 w' : World} {B B' : Nat} {ys : List SlR} {v : Value} {l : List α} (h : Held ck w B ys) (hm : Mod [] w w1) (hg : w1.grownBy w' v.ownBlock) (ho : OwnE 22 f w B' v l) : Held ck w' B ys := by
  refine ⟨fun y hy => ?_, h.apart⟩
  obtain ⟨h0, g, h1, h2, h3⟩ := h.at_ y hy
  refine ⟨h0, g, h1, h2, (hg.block g (Nat.lt_of_lt_of_le (lt_of_block h3) hm.size) ?_).trans (hm.get0 h3)⟩
  intro hx
  rcases ho.2 with ⟨rfl, _⟩ | ⟨g', cap, cur, rfl, _, hb, _⟩
  · cases hx
  · injection hx with hx
    subst hx
    rw [h3] at hb
    injection hb with hb
    injection hb with _ h2 _
    exact absurd h2 (by decide)
/-- The bytes of one are turned into other ones, as many. -/
theorem Held.turn {ck : Nat} {w : World} {B : Nat} {ys : List SlR} (h : Held ck w B ys) (k : Nat) (y : SlR) (hy : ys[k]? = some y) (g : Nat) (hg : y.p = some ⟨g, 0, none⟩) (d : List UInt8) (hd : d.length = y.d.length) :
    Held ck (w.setRow g ((d ++ marks ck).map V8).toArray) B (ys.set k ⟨y.p, y.cap, d⟩) := by
  have hk : k < ys.length := (List.getElem?_eq_some_iff.1 hy).1
  have hyk : ys[k] = y := (List.getElem?_eq_some_iff.1 hy).2
  obtain ⟨h0, g', h1, h2, h3⟩ := h.at_ y (List.mem_of_getElem? hy)
  rw [hg] at h1; injection h1 with h1; injection h1 with h1
  subst h1
  have ha := List.pairwise_iff_getElem.1 h.apart
  constructor
  · intro z hz
    obtain ⟨j, hj⟩ := List.mem_iff_getElem?.1 hz
    rw [List.getElem?_set] at hj
    split at hj
    · rename_i hkj
      injection hj with hj
      subst hj
      exact ⟨by simp only; omega, g, hg, h2, hp_setRow h3⟩
    · rename_i hkj
      obtain ⟨hjl, hjz⟩ := List.getElem?_eq_some_iff.1 hj
      obtain ⟨e0, g2, e1, e2, e3⟩ := h.at_ z (List.mem_of_getElem? hj)
      refine ⟨e0, g2, e1, e2, hp_setRow_ne e3 ?_⟩
      rintro rfl
      rcases Nat.lt_or_gt_of_ne hkj with hlt | hlt
      · exact ha k j hk hjl hlt (by rw [hyk, hjz, hg, e1])
      · exact ha j k hjl hk hlt (by rw [hyk, hjz, hg, e1])
  · rw [List.pairwise_iff_getElem]
    intro i j hi hj hij
    rw [List.length_set] at hi hj
    have e : ∀ m (hm : m < ys.length), SlR.p ((ys.set k ⟨y.p, y.cap, d⟩)[m]'(by rw [List.length_set]; exact hm)) = ys[m].p := by
      intro m hm
      rw [List.getElem_set]
      split
      · rename_i hkm; subst hkm; rw [hyk]
      · rfl
    rw [e i hi, e j hj]
    exact ha i j hi hj hij
def othSl (y : SlR) : SlR := ⟨y.p, y.cap, otherOf y.d⟩
theorem set_map_drop {α : Type} (f : α → α) (ys : List α) (k : Nat) (y : α) (h : ys[k]? = some y) : ((ys.take k).map f ++ ys.drop k).set k (f y) = (ys.take (k + 1)).map f ++ ys.drop (k + 1) := by
  obtain ⟨hk, hy⟩ := List.getElem?_eq_some_iff.1 h
  rw [List.set_append_right _ _ (by simp; omega), List.take_add_one, h, List.drop_eq_getElem_cons hk, hy]
  simp [Nat.min_eq_left (Nat.le_of_lt hk)]
theorem get_map_drop {α : Type} (f : α → α) (ys : List α) (k : Nat) : ((ys.take k).map f ++ ys.drop k)[k]? = ys[k]? := by
  rcases Nat.lt_or_ge k ys.length with h | h
  · rw [List.getElem?_append_right (by simp; omega)]
    simp [Nat.min_eq_left (Nat.le_of_lt h)]
  · rw [List.getElem?_eq_none (by simp; omega), List.getElem?_eq_none h]
/-- The cells of the list of lists: those that were laid, then empty ones. -/
def mineOf (ys : List SlR) (mk : List SlR) (r : Nat) : List Value := (ys ++ mk ++ List.replicate r nilSl).map SlR.v
theorem mine_set {ys : List SlR} {r : Nat} (y : SlR) : (mineOf ys [] (r + 1)).set ys.length y.v = mineOf (ys ++ [y]) [] r := by
  unfold mineOf
  rw [← List.map_set, List.append_nil, List.set_append_right _ _ (Nat.le_refl _), Nat.sub_self, List.replicate_succ, List.set_cons_zero]
  simp
theorem mine_set2 {ys mk : List SlR} {r : Nat} (y : SlR) : (mineOf ys mk (r + 1)).set (ys.length + mk.length) y.v = mineOf ys (mk ++ [y]) r := by
  unfold mineOf
  rw [← List.map_set, List.set_append_right _ _ (by simp), List.length_append, Nat.sub_self, List.replicate_succ, List.set_cons_zero]
  simp
theorem mine_rd {w : World} {m r cap : Nat} {ys mk : List SlR} {t : TypeId} {fr : Nat × Nat} (h : w.heap[m]? = some (.cells (mineOf ys mk r).toArray t fr)) (hc : ys.length ≤ cap) : Rd SlR.v w (some ⟨m, 0, none⟩) cap ys :=
  Rd.of_blk h (fun j v hj => by
    have hj' : j < (ys.map SlR.v).length := (List.getElem?_eq_some_iff.1 hj).1
    unfold mineOf
    rw [Nat.zero_add, List.getElem?_toArray, List.append_assoc, List.map_append, List.getElem?_append_left hj']
    exact hj) hc
theorem mine_cell {ys mk : List SlR} {r : Nat} (k : Nat) (y : SlR) (h : ys[k]? = some y) : (mineOf ys mk r)[k]? = some y.v := by
  unfold mineOf
  rw [List.append_assoc, List.getElem?_map, List.getElem?_append_left (List.getElem?_eq_some_iff.1 h).1, h]
  rfl
theorem mine_cell2 {ys mk : List SlR} {r : Nat} (k : Nat) (y : SlR) (h : mk[k]? = some y) : (mineOf ys mk r)[ys.length + k]? = some y.v := by
  unfold mineOf
  rw [List.append_assoc, List.getElem?_map, List.getElem?_append_right (by omega), Nat.add_sub_cancel_left, List.getElem?_append_left (List.getElem?_eq_some_iff.1 h).1, h]
  rfl
theorem mine_cell3 {ys mk : List SlR} {r k : Nat} (h1 : ys.length + mk.length ≤ k) (h2 : k < ys.length + mk.length + r) : (mineOf ys mk r)[k]? = some (SlR.v nilSl) := by
  unfold mineOf
  rw [List.getElem?_map, List.getElem?_append_right (by simp; omega), List.getElem?_replicate, if_pos (by simp; omega)]
  rfl
/-- copy(dst, src) as one step of a region that draws its order. -/
theorem step_copy8 {ops : Array Oper} {o : Oper} {a : Act} {w : World} {K : Act → World → Prop} {Q : Exit → Act → World → Prop} {E : Prop} (hgd : o.guard = none) (d s : Operand)
    (ho : o.op = .call { callee := .builtin .copy, args := #[d, s], argTypes := #[22, 22] }) (g off dLen dCap : Nat) (p : Option Addr) (n sCap : Nat) (src D : List UInt8)
    (hd : a.eval d = .slice (some ⟨g, off, none⟩) dLen dCap) (hs : a.eval s = .slice p n sCap) (hg : w.heap[g]? = some (.cells (D.map V8).toArray 5 (0, 0))) (hr : Rd V8 w p sCap src) (hn : n = src.length)
    (hfit : off + dLen ≤ D.length) (D' : List UInt8) (hD : D.take off ++ (src.take dLen ++ D.drop (off + min src.length dLen)) = D')
    (h : K (a.put o.dst (goInt ((min src.length dLen : Nat) : Int))) (w.setRow g (D'.map V8).toArray)) :
    if Region.wanted o (yielded ops a.tmps) = true then Oper.wp Tryd.prog o a w K Q else E := by
  have hw : Region.wanted o (yielded ops a.tmps) = true := by simp [Region.wanted, hgd]
  rw [if_pos hw]
  subst hn hD
  by_cases h0 : Nat.min src.length dLen = 0
  · have h0' : min src.length dLen = 0 := h0
    have e : D.take off ++ (src.take dLen ++ D.drop (off + min src.length dLen)) = D := by
      have e1 : src.take dLen = [] := by
        apply List.eq_nil_of_length_eq_zero; rw [List.length_take, Nat.min_comm]; exact h0'
      rw [e1, h0', List.nil_append, Nat.add_zero, List.take_append_drop]
    rw [e, h0', setRow_same hg] at h
    have hrun := run_copy_none (P := Tryd.prog) w 22 22 o.type 5 (some ⟨g, off, none⟩) p dLen dCap src.length sCap Tryd.underlying22 info5' h0
    unfold Oper.wp
    simp [execOp, ho, resolve, invoke, builtin, hd, hs, hrun, Result.andThen]
    exact (by simpa using h : K (a.put o.dst (goInt 0)) w)
  · have hne : src ≠ [] := by rintro rfl; exact h0 (by simp)
    obtain ⟨b, o', rfl, hrr⟩ := hr.at_ hne
    have hlm : (src.take dLen).length = min src.length dLen := by rw [List.length_take, Nat.min_comm]
    have hrun := run_copy_row (P := Tryd.prog) w 22 22 o.type 5 g off dLen dCap ⟨b, o', none⟩ src.length sCap _ _ ((src.take dLen).map V8) Tryd.underlying22 info5' hg (by rw [List.length_map, hlm]; try rfl) (by
        intro j v hj
        rw [Addr.add_mid]
        refine hrr j v ?_
        rw [List.getElem?_map, List.getElem?_take] at hj
        rw [List.getElem?_map]
        split at hj
        · exact hj
        · simp at hj) (by rw [List.length_map, hlm]; simp only [List.size_toArray, List.length_map]; omega) (fun v hv => by obtain ⟨x, _, rfl⟩ := List.mem_map.1 hv; exact one8 x)
    unfold Oper.wp
    simp [execOp, ho, resolve, invoke, builtin, hd, hs, hrun, Result.andThen]
    rw [← hlm] at h
    simp [List.map_append, List.map_take, List.map_drop] at h ⊢
    exact h
theorem madeCells_nil (n : Nat) : madeCells (Value.slice none 0 0).cells n = (mineOf [] [] n).toArray := by
  unfold mineOf
  apply Array.ext
  · simp [madeCells, show (Value.slice none 0 0).cells = #[.slice none 0 0] from rfl]
  · intro i h1 h2
    simp [madeCells]
    rw [show (Value.slice none 0 0).cells = #[.slice none 0 0] from rfl]
    simp [Nat.mod_one]
    rfl
theorem wpList_makeSl {ops : Array Oper} {rest : List Oper} {o : Oper} {a : Act} {Q : Exit → Act → World → Prop} {w : World} (hgd : o.guard = none) (l c : Operand) (ho : o.op = .makeSlice 25 l c) (n : Nat) (C : Int)
    (hl : a.eval l = .int .i64 C) (hc : a.eval c = .int .i64 C) (hC : C = n) (hn : n ≤ 4294967296)
    (h : wpList Tryd.prog ops Q rest (a.put o.dst (.slice (some ⟨w.heap.size, 0, none⟩) n n)) (w.alloc (.cells (mineOf [] [] n).toArray 22))) : wpList Tryd.prog ops Q (o :: rest) a w := by
  obtain ⟨i0, hi, hz0, hz1, hz2⟩ := info_parts infoSl
  subst hC
  have hrun := run_make (P := Tryd.prog) w 25 22 i0 (.slice none 0 0) Tryd.underlying25 hi hz0 .i64 .i64 n n (by omega) (by omega) (by rw [hz2]; omega) (by omega)
  rw [hz1, Int.toNat_natCast, Nat.mul_one, madeCells_nil] at hrun
  refine wpList_plain hgd fun K hK => ?_
  unfold Oper.wp
  simp [execOp, ho, hl, hc, hrun, Result.andThen]
  exact hK _ _ (by simpa using h)
theorem of_held {ck : Nat} {w : World} {B : Nat} {ys : List SlR} (h : Held ck w B ys) (k : Nat) (y : SlR) (hy : ys[k]? = some y) : ∃ g, y = ⟨some ⟨g, 0, none⟩, y.d.length + ck, y.d⟩ ∧ B ≤ g ∧ w.heap[g]? = some (.cells ((y.d ++ marks ck).map V8).toArray 5 (0, 0)) := by
  obtain ⟨h0, g, h1, h2, h3⟩ := h.at_ y (List.mem_of_getElem? hy)
  refine ⟨g, ?_, h2, h3⟩
  cases y
  simp only at h0 h1
  rw [h0, h1]
end Go.Proofs.YtbbobpjcbnfpfaaDoor
namespace Go.Proofs.YtbbobpjcbnfpfaaDoor
open Go.RowKit
attribute [local go_sem high] one8 st8 cm8 b_and8 b_and8r b_and8l b_or8 b_or8r b_or8l b_xor8 b_xor8r b_xor8l b_andNot8 b_andNot8r b_andNot8l b_add8 b_add8r b_add8l b_sub8 b_sub8r b_sub8l b_mul8 b_mul8r b_mul8l b_eql8 b_eql8r b_eql8l b_neq8 b_neq8r b_neq8l b_lss8 b_lss8r b_lss8l b_leq8 b_leq8r b_leq8l b_gtr8 b_gtr8r b_gtr8l b_geq8 b_geq8r b_geq8l b_quo8r b_rem8r b_shl8r b_shr8r b_shl8l b_shr8l u_xor8 g_eql8 g_neq8 g_eql8' g_neq8' one32 st32 cm32 b_and32 b_and32r b_and32l b_or32 b_or32r b_or32l b_xor32 b_xor32r b_xor32l b_andNot32 b_andNot32r b_andNot32l b_add32 b_add32r b_add32l b_sub32 b_sub32r b_sub32l b_mul32 b_mul32r b_mul32l b_eql32 b_eql32r b_eql32l b_neq32 b_neq32r b_neq32l b_lss32 b_lss32r b_lss32l b_leq32 b_leq32r b_leq32l b_gtr32 b_gtr32r b_gtr32l b_geq32 b_geq32r b_geq32l b_quo32r b_rem32r b_shl32r b_shr32r b_shl32l b_shr32l u_xor32 g_eql32 g_neq32 g_eql32' g_neq32' one64 st64 cm64 b_and64 b_and64r b_and64l b_or64 b_or64r b_or64l b_xor64 b_xor64r b_xor64l b_andNot64 b_andNot64r b_andNot64l b_add64 b_add64r b_add64l b_sub64 b_sub64r b_sub64l b_mul64 b_mul64r b_mul64l b_eql64 b_eql64r b_eql64l b_neq64 b_neq64r b_neq64l b_lss64 b_lss64r b_lss64l b_leq64 b_leq64r b_leq64l b_gtr64 b_gtr64r b_gtr64l b_geq64 b_geq64r b_geq64l b_quo64r b_rem64r b_shl64r b_shr64r b_shl64l b_shr64l u_xor64 g_eql64 g_neq64 g_eql64' g_neq64' c_u8_u8 c_u8_u32 c_u8_u64 c_i_u8 c_u32_u8 c_u32_u32 c_u32_u64 c_i_u32 c_u64_u8 c_u64_u32 c_u64_u64 c_i_u64 c_u8_i c_u32_i
attribute [local go_sem ↓] ce8 ce32 ce64
attribute [local go_sem ↓] sliced_slp loadO26 storeO26
theorem some_any (p : Option Addr) (n c : Nat) (hn : n ≤ 1048576) (w : World) :
    Calls Tryd.prog 18 #[.slice p n c, .int .i64 1048576] w fun e w' => e = .returned (.slice p n c) ∧ w' = w := by
  go_enter Tryd.func18, Tryd.ntmps18
  go_wp2_with fail
  go_ret
  exact ⟨rfl, rfl⟩
/-- Leaves in memory of their own. -/
structure Twin (w : World) (B g : Nat) (zs : List SlR) : Prop where
  held : Held 0 w B zs
  mine : w.heap[g]? = some (.cells (mineOf zs [] 0).toArray 22)
  le : B ≤ g
theorem Twin.mod0 {a w : World} {B g : Nat} {zs : List SlR} (h : Twin a B g zs) (m : Mod [] a w) : Twin w B g zs := ⟨h.held.mod0 m, m.get0 h.mine, h.le⟩
set_option maxRecDepth 100000 in
theorem twin_any (xs : List SlR) (p : Option Addr) (c n : Nat) (w : World) (hn : n = xs.length) (h : Lv w p c xs) :
    Calls Tryd.prog 61 #[.slice p n c] w fun e w' => ∃ g zs, e = .returned (.slice (some ⟨g, 0, none⟩) n n) ∧ ds zs = ds xs ∧ Twin w' w.heap.size g zs ∧ Mod [] w w' := by
  have HV := Lib.hid h
  have HN := Lib.hid hn
  have hn4 := h.len
  rw [← hn] at hn4
  clear h hn
  go_enter Tryd.func61, Tryd.ntmps61
  go_wp2_with (at_make; with_reducible refine wpList_makeSl rfl _ _ rfl n _ rfl rfl rfl hn4 ?_)
  obtain ⟨m, hm⟩ : ∃ m, m = w.heap.size := ⟨_, rfl⟩
  obtain ⟨W1, hW1⟩ : ∃ W1, W1 = w.alloc (.cells (mineOf [] [] n).toArray 22) := ⟨_, rfl⟩
  have M1 : Mod [] w W1 := by rw [hW1]; exact (Mod.refl [] w).alloc _
  have HM := Lib.hid (show W1.heap[m]? = some (.cells (mineOf [] [] n).toArray 22) by rw [hW1]; exact hp_new _ _ _ hm)
  rw [← hW1, ← hm]
  have HMW := Lib.hid hm
  clear hW1 hm
  go_wp2_with fail
  go_loopw [4, 5] (fun iv u wr => ∃ (k : Nat) (ys : List SlR), k ≤ n ∧ iv = .int .i64 k ∧ Hid (ds ys = (ds xs).take k) ∧ wr.heap[m]? = some (.cells (mineOf ys [] (n - k)).toArray 22) ∧ Held 0 wr m ys ∧ Mod [] w wr) (fun iv _ _ => n - (intOf iv).toNat)
  case atStart => exact ⟨0, [], by omega, rfl, Lib.hid (by simp [ds]), HM.out, Held.nil _ _ _, M1⟩
  case round =>
    clear M1 HM
    obtain ⟨k, ys, hk, rfl, HYX, hmine, hheld, hmod⟩ := hrel
    have HMINE := Lib.hid hmine
    have HHELD := Lib.hid hheld
    have HMOD := Lib.hid hmod
    have hylen : ys.length = k := by
      have := congrArg List.length HYX.out
      have := HN.out
      simp [ds] at *; omega
    have HYL := Lib.hid hylen
    have hmlt := lt_of_block hmine
    clear hmine hheld hylen hmod
    by_cases hlt : k < n
    · obtain ⟨x, hxk⟩ : ∃ x, xs[k]? = some x := ⟨xs[k]'(by have := HN.out; omega), List.getElem?_eq_getElem _⟩
      have hxs := HV.out.small x (List.mem_of_getElem? hxk)
      obtain ⟨b, o, rfl, hc⟩ := (HV.out.rd.mod0 HMOD.out).cell k x hxk
      have HXR := Lib.hid (fun W (mm : Mod [] wr W) => (HV.out.each x (List.mem_of_getElem? hxk)).mod0 (HMOD.out.trans0 mm))
      have HXK := Lib.hid hxk
      unfold SlR.v at hc
      have hc2 := fun (O : Obj) => cell_mod0 ((Mod.refl [] wr).alloc O) hc
      have q0 : (0 : Int) ≤ (k : Int) := by omega
      have q1 : (k : Int) < (n : Int) := by omega
      clear hxk
      go_wp2_with (first
        | (at_make; with_reducible refine wpList_make8 rfl _ _ rfl x.d.length _ rfl rfl rfl (by omega) ?_)
        | (with_reducible refine froz_copy _ _ rfl ?_))
      unfold Froz
      refine wpList_copy8 rfl _ _ rfl wr.heap.size 0 x.d.length x.d.length x.p x.d.length x.cap x.d (zeros x.d.length) rfl rfl (hp_new _ _ _ rfl) (HXR.out _ ((Mod.refl [] wr).alloc _)) rfl (by simp [zeros_length]) ?_
      have e : (zeros x.d.length).take 0 ++ (x.d.take x.d.length ++ (zeros x.d.length).drop (0 + min x.d.length x.d.length)) = x.d ++ marks 0 := by
        rw [List.take_zero, List.nil_append, List.take_length, List.drop_of_length_le (by simp [zeros_length])]
        rfl
      rw [e]
      obtain ⟨g, hg⟩ : ∃ g, g = wr.heap.size := ⟨_, rfl⟩
      rw [← hg]
      refine abs_w (C := fun W => wpList _ _ _ _ _ W) (fun W => W.heap[g]? = some (.cells ((x.d ++ marks 0).map V8).toArray 5) ∧ Mod [] wr W) ⟨hp_setRow (hp_new _ _ _ hg), ((Mod.refl [] wr).alloc _).setRow (.inr (by omega)) _⟩ ?_
      rintro W ⟨hb0, hm0⟩
      have hcm : W.cell? ⟨m, k, none⟩ = some (SlR.v nilSl) := by
        rw [cell_blk (hm0.get0 HMINE.out), List.getElem?_toArray]
        have := HYL.out
        exact mine_cell3 (by simp; omega) (by simp; omega)
      have hfm : W.frozen? ⟨m, k, none⟩ = false := frozen_blk (hm0.get0 HMINE.out) k
      have HB := Lib.hid hb0
      have HM0 := Lib.hid hm0
      have HG := Lib.hid hg
      have hgm : m < g := by omega
      clear hb0 hm0 e hg hc hc2
      go_wp2_with fail
      go_roundw
      case rel =>
        have hmw := HMW.out
        have hset : Mod [m] W (W.setCell ⟨m, k, none⟩ (Value.slice (some ⟨g, 0, none⟩) x.d.length x.d.length)) := (Mod.refl [m] W).setCell (.inl (by simp)) _
        have hnew : ∀ y ∈ ys, ∀ g', y.p = some ⟨g', 0, none⟩ → g' ≠ g := fun y hy g' hg' => by
          have h1 := (HHELD.out.at_ y hy).lt hg'
          have h2 := HG.out
          omega
        have hh := (HHELD.out.mod0 HM0.out).snoc HB.out (by omega) hnew
        refine ⟨k + 1, ys ++ [⟨some ⟨g, 0, none⟩, x.d.length, x.d⟩], by omega, by go_num, Lib.hid ?_, ?_, hh.mod hset (fun y hy r hr => ?_), (HMOD.out.trans0 HM0.out).setCell (.inr (by simp only; omega)) _⟩
        · have h := HYX.out
          unfold ds at h ⊢
          rw [List.map_append, h, List.take_add_one, List.getElem?_map, HXK.out]; rfl
        · have h := hp_sc (j := k) (v := (Value.slice (some ⟨g, 0, none⟩) x.d.length x.d.length)) (HM0.out.get0 HMINE.out)
          have hr : n - k = (n - (k + 1)) + 1 := by omega
          have hm2 := mine_set (ys := ys) (r := n - (k + 1)) ⟨some ⟨g, 0, none⟩, x.d.length, x.d⟩
          rw [hr] at h
          rw [HYL.out] at hm2
          rw [List.setIfInBounds_toArray] at h
          exact h.trans (by rw [← hm2]; rfl)
        · rcases List.mem_append.1 hy with hy | hy
          · obtain ⟨_, g', h1, _, h3⟩ := (HHELD.out.mod0 HM0.out).at_ y hy
            rw [hr] at h1; injection h1 with h1; injection h1 with h1
            subst h1
            rintro hx
            rw [List.mem_singleton] at hx
            subst hx
            rw [HM0.out.get0 HMINE.out] at h3
            injection h3 with h3
            injection h3 with _ h2 _
            exact absurd h2 (by decide)
          · rw [List.mem_singleton] at hy; subst hy
            injection hr with hr; injection hr with hr
            simp; omega
      case measure => simp [intOf]; omega
    · have hkk : k = n := by omega
      have hd : decide ((k : Int) < (n : Int)) = false := by simp; omega
      have HK := Lib.hid hkk
      clear hkk
      go_wp2_with fail
      go_ret
      have hmw := HMW.out
      refine ⟨m, ys, rfl, ?_, ⟨?_, ?_, by omega⟩, HMOD.out⟩
      · have h := HYX.out
        rw [HK.out, List.take_of_length_le (by have := HN.out; simp [ds]; omega)] at h
        exact h
      · exact ⟨fun y hy => let ⟨h0, g, h1, h2, h3⟩ := HHELD.out.at_ y hy; ⟨h0, g, h1, by omega, h3⟩, HHELD.out.apart⟩
      · have h := HMINE.out
        rw [HK.out, Nat.sub_self] at h
        exact h
theorem set_self {α : Type} (l : List α) (i : Nat) (y : α) (h : l[i]? = some y) : l.set i y = l := by
  apply List.ext_getElem?
  intro j
  rw [List.getElem?_set]
  split
  · rename_i hij; subst hij
    rw [h, if_pos (List.getElem?_eq_some_iff.1 h).1]
  · rfl
theorem oth_step (d : List UInt8) (k : Nat) (u : UInt8) (h : d[k]? = some u) : ((otherOf d).take k ++ d.drop k).set k (u ^^^ 165) = (otherOf d).take (k + 1) ++ d.drop (k + 1) :=
  set_mix (otherOf d) d k (u ^^^ 165) (by simp [otherOf, h]) (otherOf_length d).symm
theorem oth_get (d : List UInt8) (k : Nat) (h : k ≤ d.length) : ((otherOf d).take k ++ d.drop k)[k]? = d[k]? := by
  rw [List.getElem?_append_right (by rw [List.length_take, otherOf_length]; omega), List.length_take, otherOf_length, Nat.min_eq_left h, Nat.sub_self, List.getElem?_drop, Nat.add_zero]
theorem oth_len (d : List UInt8) (k : Nat) (h : k ≤ d.length) : ((otherOf d).take k ++ d.drop k).length = d.length := by
  rw [List.length_append, List.length_take, otherOf_length, List.length_drop]; omega
theorem ds_oth (ys : List SlR) : ds (ys.map othSl) = (ds ys).map otherOf := by
  unfold ds
  rw [List.map_map, List.map_map]; rfl
theorem Twin.lv {w : World} {B g c : Nat} {zs : List SlR} (h : Twin w B g zs) (hs : ∀ z ∈ zs, z.d.length ≤ 4398046511104) (hl : zs.length ≤ 4294967296) (hc : zs.length ≤ c) : Lv w (some ⟨g, 0, none⟩) c zs :=
  ⟨mine_rd h.mine hc, h.held.rd, hs, hl⟩
set_option maxRecDepth 100000 in
theorem other_any (xs : List SlR) (p : Option Addr) (c n : Nat) (w : World) (hn : n = xs.length) (h : Lv w p c xs) :
    Calls Tryd.prog 23 #[.slice p n c] w fun e w' => ∃ g zs, e = .returned (.slice (some ⟨g, 0, none⟩) n n) ∧ ds zs = (ds xs).map otherOf ∧ Twin w' w.heap.size g zs ∧ Mod [] w w' := by
  have HT := Lib.hid (twin_any xs p c n w hn h)
  have HS := Lib.hid h.small
  have HN := Lib.hid hn
  have hn4 := h.len
  rw [← hn] at hn4
  clear h hn
  go_enter Tryd.func23, Tryd.ntmps23
  go_wp2_with fail
  refine HT.out.mono ?_
  rintro e w1 ⟨m, zs, rfl, hzd, htw, hm1⟩
  have HZD := Lib.hid hzd
  have HTW := Lib.hid htw
  have HM1 := Lib.hid hm1
  have hzl : zs.length = n := by
    have := congrArg List.length hzd
    have := HN.out
    simp [ds] at *; omega
  have HZL := Lib.hid hzl
  clear hzd htw hm1 hzl HT
  go_wp2_with fail
  go_loopw [4, 5] (fun iv u wr => ∃ (i : Nat), i ≤ n ∧ iv = .int .i64 i ∧ wr.heap[m]? = some (.cells (mineOf zs [] 0).toArray 22) ∧ Held 0 wr w.heap.size ((zs.take i).map othSl ++ zs.drop i) ∧ Mod [] w wr) (fun iv _ _ => n - (intOf iv).toNat)
  case atStart => exact ⟨0, by omega, rfl, HTW.out.mine, by simpa using HTW.out.held, HM1.out⟩
  case round =>
    obtain ⟨i, hi, rfl, hmine, hheld, hmod⟩ := hrel
    have HMINE := Lib.hid hmine
    have HHELD := Lib.hid hheld
    have HMOD := Lib.hid hmod
    clear hmine hheld hmod
    by_cases hlt : i < n
    · obtain ⟨y, hy⟩ : ∃ y, zs[i]? = some y := ⟨zs[i]'(by have := HZL.out; omega), List.getElem?_eq_getElem _⟩
      obtain ⟨cur, hcur⟩ : ∃ cur, cur = (zs.take i).map othSl ++ zs.drop i := ⟨_, rfl⟩
      have hyc : cur[i]? = some y := by rw [hcur, get_map_drop]; exact hy
      rw [← hcur] at HHELD
      obtain ⟨g, hye, hgB, _⟩ := of_held HHELD.out i y hyc
      have hyd : y.d.length ≤ 4398046511104 := by
        have h1 : y.d ∈ ds zs := List.mem_map.2 ⟨y, List.mem_of_getElem? hy, rfl⟩
        rw [HZD.out] at h1
        obtain ⟨x, hx, he⟩ := List.mem_map.1 h1
        rw [← he]; exact HS.out x hx
      obtain ⟨d, hd⟩ : ∃ d, d = y.d := ⟨_, rfl⟩
      rw [← hd] at hye hyd
      subst hye
      have HY := Lib.hid hy
      have HYC := Lib.hid hyc
      have HCUR := Lib.hid hcur
      have q0 : (0 : Int) ≤ (i : Int) := by omega
      have q1 : (i : Int) < (n : Int) := by omega
      clear hd hy hyc hcur
      go_wp2_with fail
      obtain ⟨wo, hwo⟩ : ∃ wo, wo = wr := ⟨_, rfl⟩
      rw [← hwo] at HMINE HHELD HMOD ⊢
      clear hwo
      go_loopw [5] (fun kv wr => ∃ k : Nat, k ≤ d.length ∧ kv = .int .i64 k ∧ wr.heap[m]? = some (.cells (mineOf zs [] 0).toArray 22) ∧ Held 0 wr w.heap.size (cur.set i ⟨some ⟨g, 0, none⟩, d.length + 0, (otherOf d).take k ++ d.drop k⟩) ∧ Mod [] w wr) (fun kv _ => d.length - (intOf kv).toNat)
      case atStart =>
        refine ⟨0, by omega, rfl, HMINE.out, ?_, HMOD.out⟩
        rw [List.take_zero, List.drop_zero, List.nil_append, set_self cur i _ HYC.out]
        exact HHELD.out
      case round =>
        obtain ⟨k, hk, rfl, hmine, hheld, hmod⟩ := hrel
        have hil : i < cur.length := (List.getElem?_eq_some_iff.1 HYC.out).1
        obtain ⟨_, g', hp, _, hgb⟩ := hheld.at_ ⟨some ⟨g, 0, none⟩, d.length + 0, (otherOf d).take k ++ d.drop k⟩ (List.mem_of_getElem? (i := i) (by rw [List.getElem?_set, if_pos rfl, if_pos hil]))
        simp only [Option.some.injEq, Addr.mk.injEq] at hp
        obtain ⟨rfl, _⟩ := hp
        have hcm : wr.cell? ⟨m, i, none⟩ = some (.slice (some ⟨g, 0, none⟩) d.length d.length) := by
          rw [cell_blk hmine, List.getElem?_toArray]
          exact mine_cell i _ HY.out
        have HMI := Lib.hid hmine
        have HHE := Lib.hid hheld
        have HMO := Lib.hid hmod
        have HGB := Lib.hid hgb
        clear hmine hheld hmod hil
        by_cases hlk : k < d.length
        · obtain ⟨u, hu⟩ : ∃ u, d[k]? = some u := ⟨d[k], List.getElem?_eq_getElem hlk⟩
          have hc : wr.cell? ⟨g, k, none⟩ = some (V8 u) := by
            rw [cell_blk HGB.out, List.getElem?_toArray, List.getElem?_map, List.getElem?_append_left (by rw [oth_len d k hk]; exact hlk), oth_get d k hk, hu]; rfl
          have hf : wr.frozen? ⟨g, k, none⟩ = false := frozen_blk HGB.out k
          have r0 : (0 : Int) ≤ (k : Int) := by omega
          have r1 : (k : Int) < (d.length : Int) := by omega
          have HU := Lib.hid hu
          clear hu hgb
          go_wp2_with fail
          go_region
          go_wp2_with fail
          go_roundw
          case rel =>
            have hset : Mod [g] wr (wr.setCell ⟨g, k, none⟩ (V8 (u ^^^ 165))) := (Mod.refl [g] wr).setCell (.inl (by simp)) _
            refine ⟨k + 1, by omega, by go_num, ?_, ?_, (HMO.out.setCell (.inr hgB) _).drew⟩
            · refine hp_drew (hset.get HMI.out ?_)
              rw [List.mem_singleton]
              rintro hx
              subst hx
              have h3 := HGB.out
              rw [HMI.out] at h3
              injection h3 with h3
              injection h3 with _ h2 _
              exact absurd h2 (by decide)
            · have ht := HHE.out.turn i ⟨some ⟨g, 0, none⟩, d.length + 0, (otherOf d).take k ++ d.drop k⟩ (by rw [List.getElem?_set, if_pos rfl, if_pos (List.getElem?_eq_some_iff.1 HYC.out).1]) g rfl (((otherOf d).take k ++ d.drop k).set k (u ^^^ 165)) (List.length_set ..)
              rw [List.set_set, oth_step d k u HU.out] at ht
              have hrow : wr.setCell ⟨g, k, none⟩ (V8 (u ^^^ 165)) = wr.setRow g ((((otherOf d).take (k + 1) ++ d.drop (k + 1)) ++ marks 0).map V8).toArray := by
                rw [setCell_blk _ HGB.out, ← oth_step d k u HU.out]
                congr 1
                rw [List.setIfInBounds_toArray, ← List.map_set, List.set_append_left _ _ (by rw [oth_len d k hk]; exact hlk)]
              rw [hrow]
              exact ht.mod0 (Mod.refl [] _).drew
          case measure => simp [intOf]; omega
        · have hkd : k = d.length := by omega
          have hdk : decide ((k : Int) < (d.length : Int)) = false := by simp; omega
          have HK := Lib.hid hkd
          clear hkd hgb
          go_wp2_with fail
          go_roundw
          case rel =>
            refine ⟨i + 1, by omega, by go_num, HMI.out, ?_, HMO.out⟩
            have h := HHE.out
            rw [HK.out, List.take_of_length_le (Nat.le_of_eq (otherOf_length d)), List.drop_length, List.append_nil, HCUR.out] at h
            have h2 := set_map_drop othSl zs i _ HY.out
            rw [← h2]
            exact h
          case measure => simp [intOf]; omega
    · have hin : i = n := by omega
      have hd : decide ((i : Int) < (n : Int)) = false := by simp; omega
      have HIN := Lib.hid hin
      clear hin
      go_wp2_with fail
      go_ret
      have hzl := HZL.out
      refine ⟨m, zs.map othSl, rfl, by rw [ds_oth, HZD.out], ⟨?_, ?_, ?_⟩, HMOD.out⟩
      · have h := HHELD.out
        rw [HIN.out, ← hzl, List.take_length, List.drop_length, List.append_nil] at h
        exact h
      · have h := HMINE.out
        have e : mineOf (zs.map othSl) [] 0 = mineOf zs [] 0 := by
          unfold mineOf
          simp [Function.comp_def, SlR.v, othSl, otherOf_length]
        rw [e]; exact h
      · exact HTW.out.le
end Go.Proofs.YtbbobpjcbnfpfaaDoor
