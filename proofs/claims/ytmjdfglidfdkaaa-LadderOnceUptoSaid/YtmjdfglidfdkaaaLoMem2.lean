/- The book of what was posted, written in place; an entry in a box; what a confirmation, a drop make of it (LadderOnce). No condition. -/
import Derived.Test.YtmjdfglidfdkaaaLoMem
import Derived.Test.YtmjdfglidfdkaaaLoShape
namespace Go.Proofs.Ytmjdfglidfdkaaa
open Go.RowKit
abbrev OwnB (w : World) (B : Nat) (v : Value) (l : List Bk) : Prop := OwnN 60 88 Bk.cells w B v l
theorem Bk.set87 (x : Bk) (d : Int) : Bk.cells { x with gone := d } = x.cells.set 87 (.int .i64 d) := by
  unfold Bk.cells
  rw [List.set_append_right _ _ (by rw [x.commit.len]; omega), List.set_append_right _ _ (by simp [x.commit.len, x.by_.2]), x.commit.len, List.length_map, x.by_.2]
  rfl
/-- 'gone' of one of them is written. -/
theorem ownB_set {w : World} {B b n cap : Nat} {l : List Bk} (h : OwnB w B (.slice (some ⟨b, 0, none⟩) n cap) l) (i : Nat) (x : Bk) (hx : l[i]? = some x) (d : Int) : OwnB (w.setCell ⟨b, i * 88 + 87, none⟩ (.int .i64 d)) B (.slice (some ⟨b, 0, none⟩) n cap) (l.set i { x with gone := d }) := by
  rcases h.2 with ⟨hv, _⟩ | ⟨g, cap', cur, hv, hB, hg, hn, hm, hs, ht⟩
  · injection hv with hv; cases hv
  · injection hv with hv h1 h2
    injection hv with hv; injection hv with hv
    subst hv h1 h2
    refine ⟨by rw [length_flatMap_const _ 88 Bk.len], .inr ⟨b, cap, cur.setIfInBounds (i * 88 + 87) (.int .i64 d), by rw [List.length_set], hB, hp_sc hg, by rw [List.length_set]; exact hn, hm, by simpa using hs, ?_⟩⟩
    rw [flatMap_set Bk.cells 88 Bk.len l i x _ 87 (.int .i64 d) hx (by decide) (Bk.set87 x d), ← ht, List.length_set, Array.toList_setIfInBounds]
    rw [List.take_set]
theorem ownB_at {w : World} {B : Nat} {v : Value} {bs : List Bk} (h : OwnB w B v bs) (i : Nat) (x : Bk) (hx : bs[i]? = some x) : ∃ b cap, v = .slice (some ⟨b, 0, none⟩) bs.length cap ∧ w.rangeAt b (i * 88) x.cells ∧ B ≤ b ∧ (∃ C, w.heap[b]? = some (.cells C 60 (0, 0)) ∧ i * 88 + 88 ≤ C.size) := by
  have hi := (List.getElem?_eq_some_iff.1 hx).1
  rcases h.2 with ⟨hv, h0⟩ | ⟨b, cap, cur, hv, hB, hg, hn, hm, hs, ht⟩
  · rw [List.eq_nil_of_length_eq_zero h0] at hi; simp at hi
  · refine ⟨b, cap, hv, ?_, hB, cur, hg, ?_⟩
    · refine range_blk hg _ _ (fun j u hu => ?_)
      have h1 := flatMap_get Bk.cells 88 Bk.len bs i x j u hx hu
      rw [← ht, List.getElem?_take] at h1
      have := h1; simp at this; simpa using this.2
    · rw [hs]
      have : (i + 1) * 88 ≤ cap * 88 := Nat.mul_le_mul_right 88 (by omega)
      omega
theorem Bk.tail (p : Bk) (j : Nat) (h : j < 2) : p.cells[86 + j]? = ([.int .i64 p.now, .int .i64 p.gone] : List Value)[j]? := by
  unfold Bk.cells
  rw [List.getElem?_append_right (by rw [p.commit.len]; omega), List.getElem?_append_right (by simp [p.commit.len, p.by_.2]; omega)]
  rw [p.commit.len, List.length_map, p.by_.2, show 86 + j - 66 - 20 = j by omega]
theorem Bk.c86 (p : Bk) : p.cells[86]? = some (.int .i64 p.now) := p.tail 0 (by omega)
theorem Bk.c87 (p : Bk) : p.cells[87]? = some (.int .i64 p.gone) := p.tail 1 (by omega)
/-- An entry in a box. -/
structure BBox (w : World) (b : Nat) (x : Bk) : Prop where
  c : (LoadO 25 (.pointer (some ⟨b, 0, none⟩))).run Try.prog w = .ok (cv x.commit) w
  a : (LoadO 35 (.pointer (some ⟨b, 66, none⟩))).run Try.prog w = .ok (av x.by_) w
  n : w.cell? ⟨b, 86, none⟩ = some (.int .i64 x.now)
  g : w.cell? ⟨b, 87, none⟩ = some (.int .i64 x.gone)
theorem box_bk {w : World} {b : Nat} {x : Bk} {T : TypeId} {fr : Nat × Nat} (h : w.heap[b]? = some (.cells x.cells.toArray T fr)) : BBox w b x where
  c := loadCm (range_blk h 0 _ (fun j v hv => by
    have hj := (List.getElem?_eq_some_iff.1 hv).1
    rw [List.getElem?_toArray, Nat.zero_add]
    unfold Bk.cells
    rw [List.getElem?_append_left hj, hv]))
  a := loadO_mid (range_blk h 66 (x.by_.1.map V8) (fun j v hv => by
    have hj := (List.getElem?_eq_some_iff.1 hv).1
    rw [List.getElem?_toArray]
    unfold Bk.cells
    rw [List.getElem?_append_right (by rw [x.commit.len]; omega), x.commit.len, show 66 + j - 66 = j by omega, List.getElem?_append_left hj, hv])) Try.underlying35 rfl (by rw [List.length_map, x.by_.2]; exact infoAd')
  n := by rw [cell_blk h, List.getElem?_toArray]; exact x.c86
  g := by rw [cell_blk h, List.getElem?_toArray]; exact x.c87
/-- The poster of a pending one in a box. -/
theorem box_poster {w : World} {b : Nat} {x : Pd} {T : TypeId} {fr : Nat × Nat} (h : w.heap[b]? = some (.cells x.cells.toArray T fr)) : (LoadO 35 (.pointer (some ⟨b, 67, none⟩))).run Try.prog w = .ok (av x.poster) w :=
  loadO_mid (range_blk h 67 (x.poster.1.map V8) (fun j v hv => by
    have hj := (List.getElem?_eq_some_iff.1 hv).1
    rw [List.getElem?_toArray]
    unfold Pd.cells
    rw [show 67 + j = 66 + j + 1 by omega, List.getElem?_cons_succ, List.getElem?_append_right (by rw [x.commit.len]; omega), x.commit.len, show 66 + j - 66 = j by omega, List.getElem?_append_left hj, hv])) Try.underlying35 rfl (by rw [List.length_map, x.poster.2]; exact infoAd')
theorem neqAdr (w : World) (a : A20) : (binOp .neq 35 (av a) (av a)).run Try.prog w = .ok (.bool false) w := by
  have h := eqAdr w 9998 a
  unfold av
  rw [run_neq_struct, h]; rfl
theorem guardAdr (w : World) (op : BinOp) (x y : Operand) (a b : A20) : (eqGuard op 35 x y (av a) (av b)).run Try.prog w = .ok () w :=
  run_eqGuard_agg w op _ x y _ _ Try.eqGuardType35
/-- What a confirmation makes of ladder and book. -/
theorem conf_zero {L : Lad} {now z : Int} {n : Nat} {bs : List Bk} (hf : Fine L z) (hk : L.Ok n) (hb : Book bs L) (he : L.confErr now = 0) :
    ∃ (p : Pd) (r : List Pd) (i : Nat), L.pending = p :: r ∧ L.outConf now = p ∧ (L.afterConf now).confirmed = p.commit ∧ p.duels = 0 ∧ p.deadline ≤ now ∧ L.confirmed.count < p.commit.count ∧ p.number = (i : Int) + 1 ∧
      bs[i]? = some ⟨p.commit, p.poster, p.posted, 0⟩ ∧ Book (bs.set i ⟨p.commit, p.poster, p.posted, 1⟩) (L.afterConf now) := by
  have hc := hf.chain
  have he2 := he
  unfold Lad.confErr at he2
  split at he2
  · cases he2
  cases hp : L.pending with
  | nil => rw [hp] at he2; cases he2
  | cons p r =>
    rw [hp] at he2 hc
    simp only at he2
    split at he2
    · cases he2
    rename_i hd
    split at he2
    · cases he2
    rename_i hdl
    obtain ⟨i, hi, hbi⟩ := hb.at_ p (by rw [hp]; simp)
    have ha : L.afterConf now = { L with confirmed := p.commit, pending := r, last := now } := by
      unfold Lad.afterConf Lad.confirmd
      rw [if_pos he, hp]
    refine ⟨p, r, i, rfl, ?_, by rw [ha], by have := hc.1.du; omega, by omega, hc.1.lo, hi, hbi, by rw [ha]; exact hb.confirmed hf p r hp i hi hbi now⟩
    unfold Lad.outConf
    rw [if_pos he, hp]; rfl
theorem drop_zero {L : Lad} {k : Int} (he : L.dropErr k = 0) : ∃ (i : Nat) (x : Pd), L.pending[i]? = some x ∧ x.number = k ∧ L.outDrop k = L.pending.drop i ∧ L.afterDrop k = { L with pending := L.pending.take i } := by
  unfold Lad.dropErr at he
  unfold Lad.outDrop Lad.afterDrop
  cases hf : L.pending.findIdx? (fun p => p.number == k) with
  | none => rw [hf] at he; cases he
  | some i =>
    obtain ⟨hi, hp, _⟩ := List.findIdx?_eq_some_iff_getElem.1 hf
    exact ⟨i, _, List.getElem?_eq_getElem hi, by simpa using hp, rfl, rfl⟩
theorem drop_none {L : Lad} {k : Int} (he : L.dropErr k ≠ 0) : L.afterDrop k = L := by
  unfold Lad.dropErr at he
  unfold Lad.afterDrop
  cases hf : L.pending.findIdx? (fun p => p.number == k) with
  | none => rfl
  | some i => rw [hf] at he; exact absurd rfl he
/-- Numbers rise: no two are one. -/
theorem Chain.apart {z : Int} {p : Pd} {r : List Pd} : ∀ {A : List Pd} {last : Cm} {n : Int}, Chain last n z (A ++ p :: r) → ∀ q ∈ A ++ r, q.number ≠ p.number
  | [], _, _, h, q, hq => by
    have := Chain.above h.2 q hq
    omega
  | a :: A, _, _, h, q, hq => by
    rcases List.mem_cons.1 hq with rfl | hq
    · have := Chain.above h.2 p (by simp)
      omega
    · exact Chain.apart h.2 q hq
/-- One of a row is taken down. -/
theorem part_next {bs : List Bk} {L : Lad} {z : Int} {i j : Nat} {x : Pd} (hf : Fine L z) (h : Book.Part bs L.given (L.pending.take i) ((L.pending.drop i).drop j)) (hx : (L.pending.drop i)[j]? = some x) :
    ∃ k : Nat, x.number = (k : Int) + 1 ∧ bs[k]? = some ⟨x.commit, x.poster, x.posted, 0⟩ ∧ Book.Part (bs.set k ⟨x.commit, x.poster, x.posted, 2⟩) L.given (L.pending.take i) ((L.pending.drop i).drop (j + 1)) := by
  have hj := (List.getElem?_eq_some_iff.1 hx).1
  have e : (L.pending.drop i).drop j = x :: (L.pending.drop i).drop (j + 1) := by
    rw [List.drop_eq_getElem_cons hj, (List.getElem?_eq_some_iff.1 hx).2]
  rw [e] at h
  obtain ⟨k, hk, hb⟩ := h.at_ x (by simp)
  refine ⟨k, hk, hb, h.next (fun q hq => ?_) k hk hb⟩
  have hl : L.pending = (L.pending.take i ++ (L.pending.drop i).take j) ++ x :: (L.pending.drop i).drop (j + 1) := by
    rw [List.append_assoc, ← e, List.take_append_drop, List.take_append_drop]
  have hc := hf.chain
  rw [hl] at hc
  refine Chain.apart hc q ?_
  rcases List.mem_append.1 hq with hq | hq
  · exact List.mem_append.2 (.inl (List.mem_append.2 (.inl hq)))
  · exact List.mem_append.2 (.inr hq)
end Go.Proofs.Ytmjdfglidfdkaaa
