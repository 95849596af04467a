/- The book of what was posted, beside a ladder (LadderOnce). No program in sight. No condition. -/
import Derived.Test.YtmjdfglidfdkaaaLoPure
namespace Go.Proofs.Ytmjdfglidfdkaaa
open Go.RowKit
/-- What was posted, and what became of it: 0: it stands; 1: confirmed; 2: dropped. -/
structure Bk where
  commit : Cm
  by_ : A20
  now : Int
  gone : Int
instance : Inhabited Bk := ⟨⟨Cm.zero, z20, 0, 0⟩⟩
def Bk.cells (b : Bk) : List Value := b.commit.cells ++ (b.by_.1.map V8 ++ [.int .i64 b.now, .int .i64 b.gone])
theorem Bk.len (b : Bk) : b.cells.length = 88 := by simp [Bk.cells, b.commit.len, b.by_.2]
/-- Those that stand. -/
def live (bs : List Bk) : Nat := (bs.filter (fun b => b.gone == 0)).length
theorem live_append (bs : List Bk) (b : Bk) (h : b.gone = 0) : live (bs ++ [b]) = live bs + 1 := by
  unfold live
  simp [List.filter_append, h]
theorem live_set : ∀ (bs : List Bk) (i : Nat) (b : Bk) (k : Int), bs[i]? = some b → b.gone = 0 → k ≠ 0 → live (bs.set i { b with gone := k }) + 1 = live bs
  | x :: r, 0, b, k, h, h0, hk => by
    simp only [List.getElem?_cons_zero, Option.some.injEq] at h
    subst h
    have h1 : (k == 0) = false := by simpa using hk
    have h2 : (x.gone == 0) = true := by simpa using h0
    simp [live, List.filter_cons, h1, h2]
  | x :: r, i + 1, b, k, h, h0, hk => by
    have ih := live_set r i b k (by simpa using h) h0 hk
    unfold live at ih ⊢
    rw [List.set_cons_succ, List.filter_cons, List.filter_cons]
    split <;> simp_all <;> omega
/-- What holds of the book: each pending one stands in it under its number; as many stand as are pending. -/
structure Book (bs : List Bk) (L : Lad) : Prop where
  len : (bs.length : Int) = L.given
  at_ : ∀ p ∈ L.pending, ∃ i : Nat, p.number = (i : Int) + 1 ∧ bs[i]? = some ⟨p.commit, p.poster, p.posted, 0⟩
  cnt : live bs = L.pending.length
namespace Book
variable {bs : List Bk} {L : Lad} {z : Int}
theorem nil (c : Cm) (z : Int) : Book [] ⟨c, [], z, 0, 0⟩ := ⟨rfl, fun _ h => by simp at h, rfl⟩
theorem posted (h : Book bs L) (c : Cm) (by_ : A20) (now : Int) : Book (bs ++ [⟨c, by_, now, 0⟩]) (L.posted c by_ now) := by
  refine ⟨?_, ?_, ?_⟩
  · show ((bs ++ [_]).length : Int) = L.given + 1
    rw [List.length_append, ← h.len]; simp
  · intro p hp
    rcases List.mem_append.1 hp with hp | hp
    · obtain ⟨i, hi, hb⟩ := h.at_ p hp
      refine ⟨i, hi, ?_⟩
      rw [List.getElem?_append_left (List.getElem?_eq_some_iff.1 hb).1]; exact hb
    · simp only [List.mem_singleton] at hp
      subst hp
      refine ⟨bs.length, ?_, ?_⟩
      · show L.given + 1 = _; rw [← h.len]
      · rw [List.getElem?_append_right (Nat.le_refl _)]; simp
  · rw [live_append _ _ rfl, h.cnt]
    show _ = (L.pending ++ [_]).length
    simp
/-- A number that stands alone in a row: the others' places are others. -/
theorem setOther {bs : List Bk} {i : Nat} {x : Bk} {p : Pd} {k : Nat} (hi : p.number = (k : Int) + 1) (hb : bs[k]? = some ⟨p.commit, p.poster, p.posted, 0⟩) (hne : k ≠ i) : ∃ j : Nat, p.number = (j : Int) + 1 ∧ (bs.set i x)[j]? = some ⟨p.commit, p.poster, p.posted, 0⟩ :=
  ⟨k, hi, by rw [List.getElem?_set_ne (Ne.symm hne)]; exact hb⟩
theorem confirmed (h : Book bs L) (hf : Fine L z) (p : Pd) (r : List Pd) (hp : L.pending = p :: r) (i : Nat) (hi : p.number = (i : Int) + 1) (hb : bs[i]? = some ⟨p.commit, p.poster, p.posted, 0⟩) (now : Int) :
    Book (bs.set i ⟨p.commit, p.poster, p.posted, 1⟩) { L with confirmed := p.commit, pending := r, last := now } := by
  have hc := hf.chain
  rw [hp] at hc
  refine ⟨by rw [List.length_set]; exact h.len, fun q hq => ?_, ?_⟩
  · obtain ⟨k, hk, hkb⟩ := h.at_ q (by rw [hp]; exact List.mem_cons_of_mem _ hq)
    have := Chain.above hc.2 q hq
    exact setOther hk hkb (by omega)
  · have h1 := live_set bs i _ 1 hb rfl (by decide)
    have h2 := h.cnt
    rw [hp, List.length_cons] at h2
    show live _ = r.length
    have h3 : live (bs.set i ⟨p.commit, p.poster, p.posted, 1⟩) + 1 = live bs := h1
    omega
/-- Dropping one by one: the books on the way. -/
def dropN (bs : List Bk) : List Pd → List Bk
  | [] => bs
  | p :: r => dropN (bs.set (p.number - 1).toNat ⟨p.commit, p.poster, p.posted, 2⟩) r
/-- What holds of the book while a row is taken down: those of 'keep' stand, those of 'left' still stand. -/
structure Part (bs : List Bk) (given : Int) (keep left : List Pd) : Prop where
  len : (bs.length : Int) = given
  at_ : ∀ p ∈ keep ++ left, ∃ i : Nat, p.number = (i : Int) + 1 ∧ bs[i]? = some ⟨p.commit, p.poster, p.posted, 0⟩
  cnt : live bs = keep.length + left.length
theorem Part.next {bs : List Bk} {given : Int} {keep r : List Pd} {p : Pd} (h : Part bs given keep (p :: r)) (hne : ∀ q ∈ keep ++ r, q.number ≠ p.number) (i : Nat) (hi : p.number = (i : Int) + 1) (hb : bs[i]? = some ⟨p.commit, p.poster, p.posted, 0⟩) : Part (bs.set i ⟨p.commit, p.poster, p.posted, 2⟩) given keep r := by
  refine ⟨by rw [List.length_set]; exact h.len, fun q hq => ?_, ?_⟩
  · obtain ⟨k, hk, hkb⟩ := h.at_ q (by rcases List.mem_append.1 hq with hq | hq <;> simp [hq])
    exact setOther hk hkb (by have := hne q hq; omega)
  · have h1 : live (bs.set i ⟨p.commit, p.poster, p.posted, 2⟩) + 1 = live bs := live_set bs i _ 2 hb rfl (by decide)
    have h2 := h.cnt
    rw [List.length_cons] at h2
    omega
theorem part (h : Book bs L) (i : Nat) : Part bs L.given (L.pending.take i) (L.pending.drop i) :=
  ⟨h.len, by rw [List.take_append_drop]; exact h.at_, by rw [h.cnt, ← List.length_append, List.take_append_drop]⟩
theorem ofPart {bs : List Bk} {L : Lad} {i : Nat} (h : Part bs L.given (L.pending.take i) []) : Book bs { L with pending := L.pending.take i } :=
  ⟨h.len, by simpa using h.at_, by simpa using h.cnt⟩
/-- Opening, closing a duel turns no book. -/
theorem setDuel (h : Book bs L) (i : Nat) (x : Pd) (d : Int) (hx : L.pending[i]? = some x) : Book bs { L with pending := L.pending.set i { x with duels := d } } := by
  refine ⟨h.len, fun q hq => ?_, by rw [h.cnt]; simp⟩
  rcases List.mem_or_eq_of_mem_set hq with hq | rfl
  · exact h.at_ q hq
  · exact h.at_ x (List.mem_of_getElem? hx)
theorem duel (h : Book bs L) (n d : Int) : Book bs (L.duel n d) := by
  unfold Lad.duel
  split
  · exact h
  · split
    · exact h
    · rename_i x hx
      exact h.setDuel _ x _ hx
end Book
end Go.Proofs.Ytmjdfglidfdkaaa
