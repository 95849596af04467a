/- What the tree's laws lend: lists, one block each, with ck marks behind. No condition. -/
import Derived.Test.YtbbobpjcbnfpfaaDoorTrLend
import Derived.Test.YtbbobpjcbnfpfaaDoorOwnE
import Derived.Test.YtbbobpjcbnfpfaaDoorTrTexts
import Derived.Deep.RegionLaw
namespace Go.Proofs.YtbbobpjcbnfpfaaDoor
open Go.RowKit
def otherOf (d : List UInt8) : List UInt8 := d.map (· ^^^ 165)
theorem otherOf_length (d : List UInt8) : (otherOf d).length = d.length := by simp [otherOf]
/-- y, in a block of its own with ck marks behind it. -/
def LentAt (ck : Nat) (w : World) (B : Nat) (y : SlR) : Prop := y.cap = y.d.length + ck ∧ ∃ g, y.p = some ⟨g, 0, none⟩ ∧ B ≤ g ∧ w.heap[g]? = some (.cells ((y.d ++ marks ck).map V8).toArray 5 (0, 0))
/-- The whole of it. -/
def wide (ck : Nat) (y : SlR) : SlR := ⟨y.p, y.cap, y.d ++ marks ck⟩
def nilSl : SlR := ⟨none, 0, []⟩
structure Held (ck : Nat) (w : World) (B : Nat) (ys : List SlR) : Prop where
  at_ : ∀ y ∈ ys, LentAt ck w B y
  apart : ys.Pairwise fun a b => a.p ≠ b.p
theorem Held.nil (ck : Nat) (w : World) (B : Nat) : Held ck w B [] := ⟨by simp, List.Pairwise.nil⟩
theorem LentAt.lt {ck : Nat} {w : World} {B : Nat} {y : SlR} (h : LentAt ck w B y) {g : Nat} (hg : y.p = some ⟨g, 0, none⟩) : g < w.heap.size := by
  obtain ⟨_, g', hp, _, hb⟩ := h
  rw [hg] at hp; injection hp with hp; injection hp with hp
  subst hp; exact lt_of_block hb
theorem Held.mod {ck : Nat} {S : List Nat} {a w : World} {B : Nat} {ys : List SlR} (h : Held ck a B ys) (hm : Mod S a w) (hs : ∀ y ∈ ys, ∀ g, y.p = some ⟨g, 0, none⟩ → g ∉ S) : Held ck w B ys :=
  ⟨fun y hy => let ⟨h0, g, h1, h2, h3⟩ := h.at_ y hy; ⟨h0, g, h1, h2, hm.get h3 (hs y hy g h1)⟩, h.apart⟩
theorem Held.mod0 {ck : Nat} {a w : World} {B : Nat} {ys : List SlR} (h : Held ck a B ys) (hm : Mod [] a w) : Held ck w B ys := h.mod hm (by simp)
/-- A block of another type holds none of them. -/
theorem Held.ne {ck : Nat} {w : World} {B : Nat} {ys : List SlR} (h : Held ck w B ys) {b : Nat} {C : Array Value} {t : TypeId} {fr : Nat × Nat} (hb : w.heap[b]? = some (.cells C t fr)) (ht : t ≠ 5) : ∀ y ∈ ys, ∀ g, y.p = some ⟨g, 0, none⟩ → g ≠ b := by
  rintro y hy g hg rfl
  obtain ⟨_, g', hp, _, hb'⟩ := h.at_ y hy
  rw [hg] at hp; injection hp with hp; injection hp with hp
  subst hp
  rw [hb] at hb'
  injection hb' with hb'
  injection hb' with _ h2 _
  exact ht h2
theorem Held.snoc {ck : Nat} {w : World} {B : Nat} {ys : List SlR} (h : Held ck w B ys) {d : List UInt8} {g : Nat} (hg : w.heap[g]? = some (.cells ((d ++ marks ck).map V8).toArray 5)) (hB : B ≤ g) (hn : ∀ y ∈ ys, ∀ g', y.p = some ⟨g', 0, none⟩ → g' ≠ g) :
    Held ck w B (ys ++ [⟨some ⟨g, 0, none⟩, d.length + ck, d⟩]) := by
  refine ⟨fun y hy => ?_, ?_⟩
  · rcases List.mem_append.1 hy with hy | hy
    · exact h.at_ y hy
    · rw [List.mem_singleton] at hy; subst hy
      exact ⟨rfl, g, rfl, hB, hg⟩
  · rw [List.pairwise_append]
    refine ⟨h.apart, List.pairwise_singleton _ _, ?_⟩
    intro a ha b hb
    rw [List.mem_singleton] at hb; subst hb
    intro hp
    exact hn a ha g hp rfl
theorem Held.rd {ck : Nat} {w : World} {B : Nat} {ys : List SlR} (h : Held ck w B ys) : ∀ y ∈ ys, Rd V8 w y.p y.cap y.d := by
  intro y hy
  obtain ⟨h0, g, h1, _, h3⟩ := h.at_ y hy
  rw [h1]
  exact rd_front h3 (by omega)
/-- A list of lists grows: none of them turns. -/
theorem Held.grown {ck : Nat} {α : Type} {f : α → Value} {w w1 w' : World} {B B' : Nat} {ys : List SlR} {v : Value} {l : List α} (h : Held ck w B ys) (hm : Mod [] w w1) (hg : w1.grownBy w' v.ownBlock) (ho : OwnE 22 f w B' v l) : Held ck w' B ys := by
  refine ⟨fun y hy => ?_, h.apart⟩
  obtain ⟨h0, g, h1, h2, h3⟩ := h.at_ y hy
  refine ⟨h0, g, h1, h2, (hg.block g (Nat.lt_of_lt_of_le (lt_of_block h3) hm.size) ?_).trans (hm.get0 h3)⟩
  intro hx
  rcases ho.2 with ⟨rfl, _⟩ | ⟨g', cap, cur, rfl, _, hb, _⟩
  · cases hx
  · injection hx with hx
    subst hx
    rw [h3] at hb
    injection hb with hb
    injection hb with _ h2 _
    exact absurd h2 (by decide)
/-- The bytes of one are turned into other ones, as many. -/
theorem Held.turn {ck : Nat} {w : World} {B : Nat} {ys : List SlR} (h : Held ck w B ys) (k : Nat) (y : SlR) (hy : ys[k]? = some y) (g : Nat) (hg : y.p = some ⟨g, 0, none⟩) (d : List UInt8) (hd : d.length = y.d.length) :
    Held ck (w.setRow g ((d ++ marks ck).map V8).toArray) B (ys.set k ⟨y.p, y.cap, d⟩) := by
  have hk : k < ys.length := (List.getElem?_eq_some_iff.1 hy).1
  have hyk : ys[k] = y := (List.getElem?_eq_some_iff.1 hy).2
  obtain ⟨h0, g', h1, h2, h3⟩ := h.at_ y (List.mem_of_getElem? hy)
  rw [hg] at h1; injection h1 with h1; injection h1 with h1
  subst h1
  have ha := List.pairwise_iff_getElem.1 h.apart
  constructor
  · intro z hz
    obtain ⟨j, hj⟩ := List.mem_iff_getElem?.1 hz
    rw [List.getElem?_set] at hj
    split at hj
    · rename_i hkj
      injection hj with hj
      subst hj
      exact ⟨by simp only; omega, g, hg, h2, hp_setRow h3⟩
    · rename_i hkj
      obtain ⟨hjl, hjz⟩ := List.getElem?_eq_some_iff.1 hj
      obtain ⟨e0, g2, e1, e2, e3⟩ := h.at_ z (List.mem_of_getElem? hj)
      refine ⟨e0, g2, e1, e2, hp_setRow_ne e3 ?_⟩
      rintro rfl
      rcases Nat.lt_or_gt_of_ne hkj with hlt | hlt
      · exact ha k j hk hjl hlt (by rw [hyk, hjz, hg, e1])
      · exact ha j k hjl hk hlt (by rw [hyk, hjz, hg, e1])
  · rw [List.pairwise_iff_getElem]
    intro i j hi hj hij
    rw [List.length_set] at hi hj
    have e : ∀ m (hm : m < ys.length), SlR.p ((ys.set k ⟨y.p, y.cap, d⟩)[m]'(by rw [List.length_set]; exact hm)) = ys[m].p := by
      intro m hm
      rw [List.getElem_set]
      split
      · rename_i hkm; subst hkm; rw [hyk]
      · rfl
    rw [e i hi, e j hj]
    exact ha i j hi hj hij
def othSl (y : SlR) : SlR := ⟨y.p, y.cap, otherOf y.d⟩
theorem set_map_drop {α : Type} (f : α → α) (ys : List α) (k : Nat) (y : α) (h : ys[k]? = some y) : ((ys.take k).map f ++ ys.drop k).set k (f y) = (ys.take (k + 1)).map f ++ ys.drop (k + 1) := by
  obtain ⟨hk, hy⟩ := List.getElem?_eq_some_iff.1 h
  rw [List.set_append_right _ _ (by simp; omega), List.take_add_one, h, List.drop_eq_getElem_cons hk, hy]
  simp [Nat.min_eq_left (Nat.le_of_lt hk)]
theorem get_map_drop {α : Type} (f : α → α) (ys : List α) (k : Nat) : ((ys.take k).map f ++ ys.drop k)[k]? = ys[k]? := by
  rcases Nat.lt_or_ge k ys.length with h | h
  · rw [List.getElem?_append_right (by simp; omega)]
    simp [Nat.min_eq_left (Nat.le_of_lt h)]
  · rw [List.getElem?_eq_none (by simp; omega), List.getElem?_eq_none h]
/-- The cells of the list of lists: those that were laid, then empty ones. -/
def mineOf (ys : List SlR) (mk : List SlR) (r : Nat) : List Value := (ys ++ mk ++ List.replicate r nilSl).map SlR.v
theorem mine_set {ys : List SlR} {r : Nat} (y : SlR) : (mineOf ys [] (r + 1)).set ys.length y.v = mineOf (ys ++ [y]) [] r := by
  unfold mineOf
  rw [← List.map_set, List.append_nil, List.set_append_right _ _ (Nat.le_refl _), Nat.sub_self, List.replicate_succ, List.set_cons_zero]
  simp
theorem mine_set2 {ys mk : List SlR} {r : Nat} (y : SlR) : (mineOf ys mk (r + 1)).set (ys.length + mk.length) y.v = mineOf ys (mk ++ [y]) r := by
  unfold mineOf
  rw [← List.map_set, List.set_append_right _ _ (by simp), List.length_append, Nat.sub_self, List.replicate_succ, List.set_cons_zero]
  simp
theorem mine_rd {w : World} {m r cap : Nat} {ys mk : List SlR} {t : TypeId} {fr : Nat × Nat} (h : w.heap[m]? = some (.cells (mineOf ys mk r).toArray t fr)) (hc : ys.length ≤ cap) : Rd SlR.v w (some ⟨m, 0, none⟩) cap ys :=
  Rd.of_blk h (fun j v hj => by
    have hj' : j < (ys.map SlR.v).length := (List.getElem?_eq_some_iff.1 hj).1
    unfold mineOf
    rw [Nat.zero_add, List.getElem?_toArray, List.append_assoc, List.map_append, List.getElem?_append_left hj']
    exact hj) hc
theorem mine_cell {ys mk : List SlR} {r : Nat} (k : Nat) (y : SlR) (h : ys[k]? = some y) : (mineOf ys mk r)[k]? = some y.v := by
  unfold mineOf
  rw [List.append_assoc, List.getElem?_map, List.getElem?_append_left (List.getElem?_eq_some_iff.1 h).1, h]
  rfl
theorem mine_cell2 {ys mk : List SlR} {r : Nat} (k : Nat) (y : SlR) (h : mk[k]? = some y) : (mineOf ys mk r)[ys.length + k]? = some y.v := by
  unfold mineOf
  rw [List.append_assoc, List.getElem?_map, List.getElem?_append_right (by omega), Nat.add_sub_cancel_left, List.getElem?_append_left (List.getElem?_eq_some_iff.1 h).1, h]
  rfl
theorem mine_cell3 {ys mk : List SlR} {r k : Nat} (h1 : ys.length + mk.length ≤ k) (h2 : k < ys.length + mk.length + r) : (mineOf ys mk r)[k]? = some (SlR.v nilSl) := by
  unfold mineOf
  rw [List.getElem?_map, List.getElem?_append_right (by simp; omega), List.getElem?_replicate, if_pos (by simp; omega)]
  rfl
/-- copy(dst, src) as one step of a region that draws its order. -/
theorem step_copy8 {ops : Array Oper} {o : Oper} {a : Act} {w : World} {K : Act → World → Prop} {Q : Exit → Act → World → Prop} {E : Prop} (hgd : o.guard = none) (d s : Operand)
    (ho : o.op = .call { callee := .builtin .copy, args := #[d, s], argTypes := #[22, 22] }) (g off dLen dCap : Nat) (p : Option Addr) (n sCap : Nat) (src D : List UInt8)
    (hd : a.eval d = .slice (some ⟨g, off, none⟩) dLen dCap) (hs : a.eval s = .slice p n sCap) (hg : w.heap[g]? = some (.cells (D.map V8).toArray 5 (0, 0))) (hr : Rd V8 w p sCap src) (hn : n = src.length)
    (hfit : off + dLen ≤ D.length) (D' : List UInt8) (hD : D.take off ++ (src.take dLen ++ D.drop (off + min src.length dLen)) = D')
    (h : K (a.put o.dst (goInt ((min src.length dLen : Nat) : Int))) (w.setRow g (D'.map V8).toArray)) :
    if Region.wanted o (yielded ops a.tmps) = true then Oper.wp Tryd.prog o a w K Q else E := by
  have hw : Region.wanted o (yielded ops a.tmps) = true := by simp [Region.wanted, hgd]
  rw [if_pos hw]
  subst hn hD
  by_cases h0 : Nat.min src.length dLen = 0
  · have h0' : min src.length dLen = 0 := h0
    have e : D.take off ++ (src.take dLen ++ D.drop (off + min src.length dLen)) = D := by
      have e1 : src.take dLen = [] := by
        apply List.eq_nil_of_length_eq_zero; rw [List.length_take, Nat.min_comm]; exact h0'
      rw [e1, h0', List.nil_append, Nat.add_zero, List.take_append_drop]
    rw [e, h0', setRow_same hg] at h
    have hrun := run_copy_none (P := Tryd.prog) w 22 22 o.type 5 (some ⟨g, off, none⟩) p dLen dCap src.length sCap Tryd.underlying22 info5' h0
    unfold Oper.wp
    simp [execOp, ho, resolve, invoke, builtin, hd, hs, hrun, Result.andThen]
    exact (by simpa using h : K (a.put o.dst (goInt 0)) w)
  · have hne : src ≠ [] := by rintro rfl; exact h0 (by simp)
    obtain ⟨b, o', rfl, hrr⟩ := hr.at_ hne
    have hlm : (src.take dLen).length = min src.length dLen := by rw [List.length_take, Nat.min_comm]
    have hrun := run_copy_row (P := Tryd.prog) w 22 22 o.type 5 g off dLen dCap ⟨b, o', none⟩ src.length sCap _ _ ((src.take dLen).map V8) Tryd.underlying22 info5' hg (by rw [List.length_map, hlm]; try rfl) (by
        intro j v hj
        rw [Addr.add_mid]
        refine hrr j v ?_
        rw [List.getElem?_map, List.getElem?_take] at hj
        rw [List.getElem?_map]
        split at hj
        · exact hj
        · simp at hj) (by rw [List.length_map, hlm]; simp only [List.size_toArray, List.length_map]; omega) (fun v hv => by obtain ⟨x, _, rfl⟩ := List.mem_map.1 hv; exact one8 x)
    unfold Oper.wp
    simp [execOp, ho, resolve, invoke, builtin, hd, hs, hrun, Result.andThen]
    rw [← hlm] at h
    simp [List.map_append, List.map_take, List.map_drop] at h ⊢
    exact h
theorem madeCells_nil (n : Nat) : madeCells (Value.slice none 0 0).cells n = (mineOf [] [] n).toArray := by
  unfold mineOf
  apply Array.ext
  · simp [madeCells, show (Value.slice none 0 0).cells = #[.slice none 0 0] from rfl]
  · intro i h1 h2
    simp [madeCells]
    rw [show (Value.slice none 0 0).cells = #[.slice none 0 0] from rfl]
    simp [Nat.mod_one]
    rfl
theorem wpList_makeSl {ops : Array Oper} {rest : List Oper} {o : Oper} {a : Act} {Q : Exit → Act → World → Prop} {w : World} (hgd : o.guard = none) (l c : Operand) (ho : o.op = .makeSlice 25 l c) (n : Nat) (C : Int)
    (hl : a.eval l = .int .i64 C) (hc : a.eval c = .int .i64 C) (hC : C = n) (hn : n ≤ 4294967296)
    (h : wpList Tryd.prog ops Q rest (a.put o.dst (.slice (some ⟨w.heap.size, 0, none⟩) n n)) (w.alloc (.cells (mineOf [] [] n).toArray 22))) : wpList Tryd.prog ops Q (o :: rest) a w := by
  obtain ⟨i0, hi, hz0, hz1, hz2⟩ := info_parts infoSl
  subst hC
  have hrun := run_make (P := Tryd.prog) w 25 22 i0 (.slice none 0 0) Tryd.underlying25 hi hz0 .i64 .i64 n n (by omega) (by omega) (by rw [hz2]; omega) (by omega)
  rw [hz1, Int.toNat_natCast, Nat.mul_one, madeCells_nil] at hrun
  refine wpList_plain hgd fun K hK => ?_
  unfold Oper.wp
  simp [execOp, ho, hl, hc, hrun, Result.andThen]
  exact hK _ _ (by simpa using h)
theorem of_held {ck : Nat} {w : World} {B : Nat} {ys : List SlR} (h : Held ck w B ys) (k : Nat) (y : SlR) (hy : ys[k]? = some y) : ∃ g, y = ⟨some ⟨g, 0, none⟩, y.d.length + ck, y.d⟩ ∧ B ≤ g ∧ w.heap[g]? = some (.cells ((y.d ++ marks ck).map V8).toArray 5 (0, 0)) := by
  obtain ⟨h0, g, h1, h2, h3⟩ := h.at_ y (List.mem_of_getElem? hy)
  refine ⟨g, ?_, h2, h3⟩
  cases y
  simp only at h0 h1
  rw [h0, h1]
end Go.Proofs.YtbbobpjcbnfpfaaDoor
