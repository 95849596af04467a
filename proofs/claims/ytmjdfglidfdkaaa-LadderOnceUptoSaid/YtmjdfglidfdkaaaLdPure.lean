/- Ladders in plain words: commits, pending ones, what each call makes of a ladder. No condition. -/
import Derived.Test.YtmjdfglidfdkaaaOwnN
namespace Go.Proofs.Ytmjdfglidfdkaaa
open Go.RowKit
abbrev D32 := {l : List UInt8 // l.length = 32}
abbrev A20 := {l : List UInt8 // l.length = 20}
structure Cm where
  count : Int
  state : D32
  outbox : D32
  leaves : Int
deriving DecidableEq
def Cm.cells (c : Cm) : List Value := .int .i64 c.count :: (c.state.1.map V8 ++ (c.outbox.1.map V8 ++ [.int .i64 c.leaves]))
theorem Cm.len (c : Cm) : c.cells.length = 66 := by simp [Cm.cells, c.state.2, c.outbox.2]
theorem Cm.c0 (c : Cm) : c.cells[0]? = some (.int .i64 c.count) := rfl
theorem Cm.c65 (c : Cm) : c.cells[65]? = some (.int .i64 c.leaves) := by
  unfold Cm.cells
  rw [List.getElem?_cons_succ, List.getElem?_append_right (by simp [c.state.2]), List.getElem?_append_right (by simp [c.state.2, c.outbox.2])]
  simp [c.state.2, c.outbox.2]
theorem Cm.one (c : Cm) : ∀ u ∈ c.cells, u.oneCell' = true := by
  intro u hu
  simp only [Cm.cells, List.mem_cons, List.mem_append, List.mem_map, List.not_mem_nil, or_false] at hu
  rcases hu with rfl | ⟨x, _, rfl⟩ | ⟨x, _, rfl⟩ | rfl
  · rfl
  · exact one8 x
  · exact one8 x
  · rfl
structure Pd where
  number : Int
  commit : Cm
  poster : A20
  posted : Int
  deadline : Int
  duels : Int
deriving DecidableEq
def Pd.cells (p : Pd) : List Value := .int .i64 p.number :: (p.commit.cells ++ (p.poster.1.map V8 ++ [.int .i64 p.posted, .int .i64 p.deadline, .int .i64 p.duels]))
theorem Pd.len (p : Pd) : p.cells.length = 90 := by simp [Pd.cells, p.commit.len, p.poster.2]
theorem Pd.c0 (p : Pd) : p.cells[0]? = some (.int .i64 p.number) := rfl
theorem Pd.tail (p : Pd) (j : Nat) (h : j < 3) : p.cells[87 + j]? = ([.int .i64 p.posted, .int .i64 p.deadline, .int .i64 p.duels] : List Value)[j]? := by
  unfold Pd.cells
  rw [show 87 + j = 86 + j + 1 by omega, List.getElem?_cons_succ, List.getElem?_append_right (by rw [p.commit.len]; omega), List.getElem?_append_right (by simp [p.commit.len, p.poster.2]; omega)]
  rw [p.commit.len, List.length_map, p.poster.2, show 86 + j - 66 - 20 = j by omega]
theorem Pd.c87 (p : Pd) : p.cells[87]? = some (.int .i64 p.posted) := p.tail 0 (by omega)
theorem Pd.c88 (p : Pd) : p.cells[88]? = some (.int .i64 p.deadline) := p.tail 1 (by omega)
theorem Pd.c89 (p : Pd) : p.cells[89]? = some (.int .i64 p.duels) := p.tail 2 (by omega)
theorem Pd.cc (p : Pd) (j : Nat) (v : Value) (h : p.commit.cells[j]? = some v) : p.cells[1 + j]? = some v := by
  have hj := (List.getElem?_eq_some_iff.1 h).1
  unfold Pd.cells
  rw [Nat.add_comm, List.getElem?_cons_succ, List.getElem?_append_left hj, h]
theorem Pd.one (p : Pd) : ∀ u ∈ p.cells, u.oneCell' = true := by
  intro u hu
  simp only [Pd.cells, List.mem_cons, List.mem_append, List.mem_map, List.not_mem_nil, or_false] at hu
  rcases hu with rfl | hu | ⟨x, _, rfl⟩ | rfl | rfl | rfl
  · rfl
  · exact p.commit.one u hu
  · exact one8 x
  · rfl
  · rfl
  · rfl
def z32 : D32 := ⟨List.replicate 32 0, by simp⟩
def z20 : A20 := ⟨List.replicate 20 0, by simp⟩
def Cm.zero : Cm := ⟨0, z32, z32, 0⟩
def Pd.zero : Pd := ⟨0, Cm.zero, z20, 0, 0, 0⟩
/-- A ladder. -/
structure Lad where
  confirmed : Cm
  pending : List Pd
  window : Int
  given : Int
  last : Int
def cnt (n : Int) : Bool := decide (0 ≤ n) && decide (n ≤ 1099511627776)
def tim (n : Int) : Bool := decide (0 ≤ n) && decide (n ≤ 4611686018427387904)
namespace Lad
def top (L : Lad) : Cm := match L.pending.getLast? with | none => L.confirmed | some p => p.commit
def place (L : Lad) (n : Int) : Int := match L.pending.findIdx? (fun p => p.number == n) with | none => -1 | some i => i
def postErr (L : Lad) (c : Cm) (inbox now : Int) : Int :=
  if tim now = false ∨ now < L.last ∨ 4611686018427387904 - L.window < now then 168
  else if cnt c.count = false ∨ c.count ≤ L.top.count ∨ 1024 < c.count - L.top.count ∨ cnt c.leaves = false ∨ c.leaves < L.top.leaves then 161
  else if inbox < c.count then 162
  else if 32 ≤ L.pending.length then 163
  else 0
def posted (L : Lad) (c : Cm) (by_ : A20) (now : Int) : Lad := { L with last := now, given := L.given + 1, pending := L.pending ++ [⟨L.given + 1, c, by_, now, now + L.window, 0⟩] }
def confErr (L : Lad) (now : Int) : Int :=
  if tim now = false ∨ now < L.last then 168
  else match L.pending with
    | [] => 164
    | p :: _ => if 0 < p.duels then 166 else if now < p.deadline then 165 else 0
def confirmd (L : Lad) (now : Int) : Lad := match L.pending with
  | [] => L
  | p :: r => { L with confirmed := p.commit, pending := r, last := now }
def setDuels (L : Lad) (i : Nat) (d : Int) : Lad := { L with pending := L.pending.modify i (fun p => { p with duels := d }) }
/-- What holds of a ladder behind n steps. -/
structure Ok (L : Lad) (n : Nat) : Prop where
  w0 : 1 ≤ L.window
  w1 : L.window ≤ 4611686018427387904
  l0 : 0 ≤ L.last
  l1 : L.last ≤ 4611686018427387904
  g0 : 0 ≤ L.given
  g1 : L.given ≤ n
  c : cnt L.confirmed.count = true ∧ cnt L.confirmed.leaves = true
  p : ∀ x ∈ L.pending, cnt x.commit.count = true ∧ cnt x.commit.leaves = true ∧ 0 ≤ x.duels ∧ x.duels ≤ n ∧ 0 ≤ x.posted ∧ 0 ≤ x.deadline ∧ x.deadline ≤ 4611686018427387904
  pl : L.pending.length ≤ 32
theorem Ok.topOk {L : Lad} {n : Nat} (h : L.Ok n) : cnt L.top.count = true ∧ cnt L.top.leaves = true := by
  unfold top
  cases hp : L.pending.getLast? with
  | none => exact h.c
  | some x => exact ⟨(h.p x (List.mem_of_getLast? hp)).1, (h.p x (List.mem_of_getLast? hp)).2.1⟩
theorem cnt_bd {n : Int} (h : cnt n = true) : 0 ≤ n ∧ n ≤ 1099511627776 := by
  unfold cnt at h; simpa using h
end Lad
end Go.Proofs.Ytmjdfglidfdkaaa
