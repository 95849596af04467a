/- The shape that every step keeps (LadderOnce). No program in sight. No condition. -/
import Derived.Test.YtmjdfglidfdkaaaLaDo
namespace Go.Proofs.Ytmjdfglidfdkaaa
open Go.RowKit
/-- One pending assertion on another. -/
structure Link (last : Cm) (num z : Int) (p : Pd) : Prop where
  num : num < p.number
  lo : last.count < p.commit.count
  hi : p.commit.count - last.count ≤ 1024
  lv : last.leaves ≤ p.commit.leaves
  du : 0 ≤ p.duels
  dl : p.deadline = p.posted + z
  p0 : 0 ≤ p.posted
  d1 : p.deadline ≤ 4611686018427387904
/-- A row of pending ones, each on the one ahead of it. -/
def Chain (last : Cm) (num z : Int) : List Pd → Prop
  | [] => True
  | p :: r => Link last num z p ∧ Chain p.commit p.number z r
namespace Chain
variable {z : Int}
theorem weaken {last : Cm} {n m : Int} {l : List Pd} (h : Chain last n z l) (hm : m ≤ n) : Chain last m z l := by
  cases l with
  | nil => trivial
  | cons p r => exact ⟨{ h.1 with num := Int.lt_of_le_of_lt hm h.1.num }, h.2⟩
theorem take {last : Cm} {n : Int} : ∀ {l : List Pd} (k : Nat), Chain last n z l → Chain last n z (l.take k)
  | _, 0, _ => by rw [List.take_zero]; trivial
  | [], _ + 1, _ => trivial
  | p :: r, k + 1, h => ⟨h.1, take k h.2⟩
/-- What the last of a row is. -/
def lastC (last : Cm) : List Pd → Cm
  | [] => last
  | p :: r => lastC p.commit r
def lastN (n : Int) : List Pd → Int
  | [] => n
  | p :: r => lastN p.number r
theorem lastC_getLast (last : Cm) : ∀ l : List Pd, lastC last l = match l.getLast? with | none => last | some p => p.commit
  | [] => rfl
  | [p] => rfl
  | p :: q :: r => by
    rw [lastC, lastC_getLast p.commit (q :: r), List.getLast?_cons_cons]
    cases h : (q :: r).getLast? with
    | none => simp at h
    | some x => rfl
theorem lastN_le {n m : Int} : ∀ {l : List Pd}, n ≤ m → (∀ p ∈ l, p.number ≤ m) → lastN n l ≤ m
  | [], h, _ => h
  | p :: r, _, h => lastN_le (l := r) (h p (by simp)) (fun q hq => h q (by simp [hq]))
theorem append {last : Cm} {n : Int} {x : Pd} : ∀ {l : List Pd}, Chain last n z l → Link (lastC last l) (lastN n l) z x → Chain last n z (l ++ [x])
  | [], _, hx => ⟨hx, trivial⟩
  | _ :: _, h, hx => ⟨h.1, append h.2 hx⟩
theorem set {last : Cm} {n : Int} {d : Int} (hd : 0 ≤ d) : ∀ {l : List Pd} {i : Nat} {x : Pd}, Chain last n z l → l[i]? = some x → Chain last n z (l.set i { x with duels := d })
  | p :: r, 0, x, h, hx => by
    simp only [List.getElem?_cons_zero, Option.some.injEq] at hx
    subst hx
    exact ⟨{ h.1 with du := hd }, h.2⟩
  | p :: r, i + 1, x, h, hx => ⟨h.1, set hd h.2 (by simpa using hx)⟩
/-- Numbers are above what stands ahead. -/
theorem above {last : Cm} {n : Int} : ∀ {l : List Pd}, Chain last n z l → ∀ p ∈ l, n < p.number
  | _ :: _, h, p, hp => by
    rcases List.mem_cons.1 hp with rfl | hp
    · exact h.1.num
    · exact Int.lt_trans h.1.num (above h.2 p hp)
/-- A number is found at its place. -/
theorem find {last : Cm} {n : Int} : ∀ {l : List Pd} {i : Nat} {x : Pd}, Chain last n z l → l[i]? = some x → l.findIdx? (fun p => p.number == x.number) = some i
  | p :: r, 0, x, h, hx => by
    simp only [List.getElem?_cons_zero, Option.some.injEq] at hx
    subst hx
    simp [List.findIdx?_cons]
  | p :: r, i + 1, x, h, hx => by
    have hx' : r[i]? = some x := by simpa using hx
    have hlt := above h.2 x (List.mem_of_getElem? hx')
    have hne : (p.number == x.number) = false := by
      simp; omega
    rw [List.findIdx?_cons, hne, find h.2 hx']
    rfl
/-- From a place on. -/
theorem at_ {last : Cm} {n : Int} : ∀ {l : List Pd} (i : Nat), Chain last n z l → Chain (lastC last (l.take i)) (lastN n (l.take i)) z (l.drop i)
  | _, 0, h => by simpa [lastC, lastN] using h
  | [], _ + 1, _ => by simp [Chain]
  | p :: r, i + 1, h => at_ i h.2
end Chain
/-- What every step keeps of a ladder of the window z. -/
structure Fine (L : Lad) (z : Int) : Prop where
  win : L.window = z
  chain : Chain L.confirmed 0 z L.pending
  giv : ∀ p ∈ L.pending, p.number ≤ L.given
namespace Fine
variable {L : Lad} {z : Int} {n : Nat}
theorem post (h : Fine L z) (hk : L.Ok n) (c : Cm) (by_ : A20) (inbox now : Int) : Fine (L.afterPost c by_ inbox now) z := by
  unfold Lad.afterPost
  split
  · rename_i he
    unfold Lad.postErr at he
    split at he
    · cases he
    rename_i h1
    split at he
    · cases he
    rename_i h2
    have ht := Lad.tim_bd (fun e => h1 (.inl e))
    have hw : ¬ (4611686018427387904 - L.window < now) := fun e => h1 (.inr (.inr e))
    have a1 : ¬ c.count ≤ L.top.count := fun e => h2 (.inr (.inl e))
    have a2 : ¬ 1024 < c.count - L.top.count := fun e => h2 (.inr (.inr (.inl e)))
    have a3 : ¬ c.leaves < L.top.leaves := fun e => h2 (.inr (.inr (.inr (.inr e))))
    have etop : Chain.lastC L.confirmed L.pending = L.top := by rw [Chain.lastC_getLast]; rfl
    have hn : Chain.lastN 0 L.pending ≤ L.given := Chain.lastN_le hk.g0 h.giv
    refine ⟨h.win, Chain.append h.chain ⟨?_, ?_, ?_, ?_, ?_, ?_, ?_, ?_⟩, ?_⟩
    · show Chain.lastN 0 L.pending < L.given + 1; omega
    · show (Chain.lastC L.confirmed L.pending).count < c.count; rw [etop]; omega
    · show c.count - (Chain.lastC L.confirmed L.pending).count ≤ 1024; rw [etop]; omega
    · show (Chain.lastC L.confirmed L.pending).leaves ≤ c.leaves; rw [etop]; omega
    · show (0 : Int) ≤ 0; omega
    · show now + L.window = now + z; rw [h.win]
    · exact ht.1
    · show now + L.window ≤ 4611686018427387904; omega
    · intro p hp
      show p.number ≤ L.given + 1
      rcases List.mem_append.1 hp with hp | hp
      · have := h.giv p hp; omega
      · simp only [List.mem_singleton] at hp
        subst hp
        show L.given + 1 ≤ L.given + 1; omega
  · exact h
theorem conf (h : Fine L z) (now : Int) : Fine (L.afterConf now) z := by
  unfold Lad.afterConf
  split
  · unfold Lad.confirmd
    cases hp : L.pending with
    | nil => exact h
    | cons p r =>
      have hc := h.chain
      rw [hp] at hc
      exact ⟨h.win, hc.2.weaken (Int.le_of_lt hc.1.num), fun q hq => h.giv q (by rw [hp]; exact List.mem_cons_of_mem _ hq)⟩
  · exact h
theorem drop (h : Fine L z) (k : Int) : Fine (L.afterDrop k) z := by
  unfold Lad.afterDrop
  split
  · exact h
  · exact ⟨h.win, h.chain.take _, fun p hp => h.giv p (List.mem_of_mem_take hp)⟩
theorem set (h : Fine L z) (i : Nat) (x : Pd) (d : Int) (hx : L.pending[i]? = some x) (hd : 0 ≤ d) : Fine { L with pending := L.pending.set i { x with duels := d } } z := by
  refine ⟨h.win, Chain.set hd h.chain hx, fun p hp => ?_⟩
  rcases List.mem_or_eq_of_mem_set hp with hp | rfl
  · exact h.giv p hp
  · exact h.giv x (List.mem_of_getElem? hx)
theorem hold (h : Fine L z) (hk : L.Ok n) (k now : Int) : Fine (L.afterHold k now) z := by
  unfold Lad.afterHold Lad.duel
  split
  · split
    · exact h
    · split
      · exact h
      · rename_i x hx
        have := (hk.p x (List.mem_of_getElem? hx)).2.2.1
        exact h.set _ x _ hx (by omega)
  · exact h
theorem rel (h : Fine L z) (hk : L.Ok n) (k : Int) : Fine (L.afterRel k) z := by
  unfold Lad.afterRel Lad.duel
  split
  · rename_i he
    unfold Lad.relErr at he
    split
    · exact h
    · rename_i i hi
      split
      · exact h
      · rename_i x hx
        rw [hi] at he
        simp only [hx] at he
        have := (hk.p x (List.mem_of_getElem? hx)).2.2.1
        split at he
        · cases he
        · exact h.set _ x _ hx (by omega)
  · exact h
theorem step (h : Fine L z) (hk : L.Ok n) (s : St) : Fine (L.step s) z := by
  unfold Lad.step
  split
  · exact h.post hk _ _ _ _
  split
  · exact h.conf _
  split
  · exact h.drop _
  split
  · exact h.hold hk _ _
  split
  · exact h.rel hk _
  · exact h
end Fine
end Go.Proofs.Ytmjdfglidfdkaaa
