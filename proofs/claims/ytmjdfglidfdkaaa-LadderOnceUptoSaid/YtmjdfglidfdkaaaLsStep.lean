/- The turning calls of a ladder, each with one contract: what the ladder is behind it, whatever it answers. The condition: at most 2^20 steps. -/
import Derived.Test.YtmjdfglidfdkaaaLdEq
namespace Go.Proofs.Ytmjdfglidfdkaaa
open Go.RowKit
namespace Lad
def afterPost (L : Lad) (c : Cm) (by_ : A20) (inbox now : Int) : Lad := if L.postErr c inbox now = 0 then L.posted c by_ now else L
def numPost (L : Lad) (c : Cm) (inbox now : Int) : Int := if L.postErr c inbox now = 0 then L.given + 1 else 0
def afterConf (L : Lad) (now : Int) : Lad := if L.confErr now = 0 then L.confirmd now else L
def outConf (L : Lad) (now : Int) : Pd := if L.confErr now = 0 then L.pending.headD Pd.zero else Pd.zero
def dropErr (L : Lad) (n : Int) : Int := match L.pending.findIdx? (fun p => p.number == n) with | none => 164 | some _ => 0
def afterDrop (L : Lad) (n : Int) : Lad := match L.pending.findIdx? (fun p => p.number == n) with | none => L | some i => { L with pending := L.pending.take i }
def outDrop (L : Lad) (n : Int) : List Pd := match L.pending.findIdx? (fun p => p.number == n) with | none => [] | some i => L.pending.drop i
def duel (L : Lad) (n d : Int) : Lad := match L.pending.findIdx? (fun p => p.number == n) with
  | none => L
  | some i => match L.pending[i]? with
    | none => L
    | some x => { L with pending := L.pending.set i { x with duels := x.duels + d } }
def afterHold (L : Lad) (n now : Int) : Lad := if L.holdErr n now = 0 then L.duel n 1 else L
def afterRel (L : Lad) (n : Int) : Lad := if L.relErr n = 0 then L.duel n (-1) else L
theorem tim_bd {n : Int} (h : ¬ tim n = false) : 0 ≤ n ∧ n ≤ 4611686018427387904 := by
  unfold tim at h; simpa using h
theorem Ok.up {L : Lad} {n m : Nat} (h : L.Ok n) (hm : n ≤ m) : L.Ok m :=
  ⟨h.w0, h.w1, h.l0, h.l1, h.g0, by have := h.g1; omega, h.c, fun x hx => by obtain ⟨a, b, c, d, e⟩ := h.p x hx; exact ⟨a, b, c, by omega, e⟩, h.pl⟩
theorem Ok.len {L : Lad} {n : Nat} (h : L.Ok n) : L.pending.length ≤ 1048576 := by have := h.pl; omega
theorem Ok.post {L : Lad} {n : Nat} (h : L.Ok n) (c : Cm) (by_ : A20) (inbox now : Int) : (L.afterPost c by_ inbox now).Ok (n + 1) := by
  unfold afterPost
  split
  · rename_i he
    unfold postErr at he
    split at he
    · cases he
    rename_i h1
    split at he
    · cases he
    rename_i h2
    split at he
    · cases he
    rename_i h3
    split at he
    · cases he
    rename_i h4
    have ht := tim_bd (fun e => h1 (.inl e))
    have hcc : cnt c.count = true := by cases hc : cnt c.count with | true => rfl | false => exact absurd (.inl hc) h2
    have hcl : cnt c.leaves = true := by cases hc : cnt c.leaves with | true => rfl | false => exact absurd (.inr (.inr (.inr (.inl hc)))) h2
    have hw : ¬ (4611686018427387904 - L.window < now) := fun e => h1 (.inr (.inr e))
    have hw0 := h.w0
    refine ⟨h.w0, h.w1, ht.1, ht.2, by have := h.g0; show (0 : Int) ≤ L.given + 1; omega, by have := h.g1; show L.given + 1 ≤ ((n + 1 : Nat) : Int); omega, h.c, ?_, ?_⟩
    · intro x hx
      rcases List.mem_append.1 hx with hx | hx
      · exact (h.up (Nat.le_succ n)).p x hx
      · simp only [List.mem_singleton] at hx
        subst hx
        refine ⟨hcc, hcl, ?_, ?_, ?_, ?_, ?_⟩
        · show (0 : Int) ≤ 0; omega
        · show (0 : Int) ≤ ((n + 1 : Nat) : Int); omega
        · exact ht.1
        · show 0 ≤ now + L.window; omega
        · show now + L.window ≤ 4611686018427387904; omega
    · show (L.pending ++ [_]).length ≤ 32
      simp; omega
  · exact h.up (Nat.le_succ n)
theorem Ok.conf {L : Lad} {n : Nat} (h : L.Ok n) (now : Int) : (L.afterConf now).Ok (n + 1) := by
  unfold afterConf
  split
  · rename_i he
    unfold confErr at he
    split at he
    · cases he
    rename_i h1
    have ht := tim_bd (fun e => h1 (.inl e))
    unfold confirmd
    cases hp : L.pending with
    | nil => exact h.up (Nat.le_succ n)
    | cons p r =>
      have hx := h.p p (by simp [hp])
      have hl := h.pl
      rw [hp] at hl
      refine ⟨h.w0, h.w1, ht.1, ht.2, h.g0, by have := h.g1; show L.given ≤ ((n + 1 : Nat) : Int); omega, ⟨hx.1, hx.2.1⟩, fun x hx => (h.up (Nat.le_succ n)).p x (by rw [hp]; exact List.mem_cons_of_mem _ hx), ?_⟩
      show r.length ≤ 32
      simp at hl; omega
  · exact h.up (Nat.le_succ n)
theorem Ok.drop {L : Lad} {n : Nat} (h : L.Ok n) (k : Int) : (L.afterDrop k).Ok (n + 1) := by
  have h := h.up (Nat.le_succ n)
  unfold afterDrop
  cases L.pending.findIdx? (fun p => p.number == k) with
  | none => exact h
  | some i =>
    refine ⟨h.w0, h.w1, h.l0, h.l1, h.g0, h.g1, h.c, fun x hx => h.p x (List.mem_of_mem_take hx), ?_⟩
    have := h.pl
    show (L.pending.take i).length ≤ 32
    simp; omega
theorem Ok.set {L : Lad} {n : Nat} (h : L.Ok n) (i : Nat) (x : Pd) (d : Int) (hx : L.pending[i]? = some x) (h0 : 0 ≤ d) (h1 : d ≤ n) : ({ L with pending := L.pending.set i { x with duels := d } } : Lad).Ok n := by
  have hm := h.p x (List.mem_of_getElem? hx)
  refine ⟨h.w0, h.w1, h.l0, h.l1, h.g0, h.g1, h.c, fun y hy => ?_, by have := h.pl; simpa using this⟩
  rcases List.mem_or_eq_of_mem_set hy with hy | rfl
  · exact h.p y hy
  · exact ⟨hm.1, hm.2.1, h0, h1, hm.2.2.2.2⟩
theorem Ok.hold {L : Lad} {n : Nat} (h : L.Ok n) (k now : Int) : (L.afterHold k now).Ok (n + 1) := by
  have h2 := h.up (Nat.le_succ n)
  unfold afterHold duel
  split
  · split
    · exact h2
    · split
      · exact h2
      · rename_i x hx
        have hm := h.p x (List.mem_of_getElem? hx)
        exact h2.set _ x _ hx (by omega) (by have := hm.2.2.2.1; show x.duels + 1 ≤ ((n + 1 : Nat) : Int); omega)
  · exact h2
theorem Ok.rel {L : Lad} {n : Nat} (h : L.Ok n) (k : Int) : (L.afterRel k).Ok (n + 1) := by
  have h2 := h.up (Nat.le_succ n)
  unfold afterRel duel
  split
  · rename_i he
    unfold relErr at he
    split
    · exact h2
    · rename_i i hi
      split
      · exact h2
      · rename_i x hx
        rw [hi] at he
        simp only [hx] at he
        have hm := h.p x (List.mem_of_getElem? hx)
        split at he
        · cases he
        · exact h2.set _ x _ hx (by omega) (by have := hm.2.2.2.1; show x.duels + -1 ≤ ((n + 1 : Nat) : Int); omega)
  · exact h2
end Lad
/-- Nothing turned: a ladder as it was. -/
theorem LadPost.same {B g : Nat} {v : Value} {L : Lad} {r : Value} {w w' : World} (h : IsL w B g v L) (hm : Mod [] w w') : LadPost B g v L r w (.returned r) w' :=
  ⟨v, rfl, h.mod0 hm, hm.mono (by simp), fun _ hx => .inl hx⟩
theorem post_step (B g : Nat) (v : Value) (L : Lad) (w : World) (h : IsL w B g v L) (n : Nat) (hn : n ≤ 1048576) (hk : L.Ok n) (c : Cm) (by_ : A20) (inbox now : Int) :
    Calls Try.prog 14 #[.pointer (some ⟨g, 0, none⟩), cv c, av by_, .int .i64 inbox, .int .i64 now] w (LadPost B g v (L.afterPost c by_ inbox now) (.tuple #[.int .i64 (L.numPost c inbox now), .int .i64 (L.postErr c inbox now)]) w) := by
  unfold Lad.afterPost Lad.numPost
  by_cases he : L.postErr c inbox now = 0
  · rw [if_pos he, if_pos he, he]
    exact post_yes B g v L w h n hn hk c by_ inbox now he
  · rw [if_neg he, if_neg he]
    refine (post_no B g v L w h n hk c by_ inbox now he).mono ?_
    rintro e w' ⟨rfl, hm⟩
    exact LadPost.same h hm
theorem conf_step (B g : Nat) (v : Value) (L : Lad) (w : World) (h : IsL w B g v L) (n : Nat) (hk : L.Ok n) (now : Int) :
    Calls Try.prog 15 #[.pointer (some ⟨g, 0, none⟩), .int .i64 now] w (LadPost B g v (L.afterConf now) (.tuple #[pv (L.outConf now), .int .i64 (L.confErr now)]) w) := by
  unfold Lad.afterConf Lad.outConf
  by_cases he : L.confErr now = 0
  · rw [if_pos he, if_pos he, he]
    unfold Lad.confirmd
    cases hp : L.pending with
    | nil =>
      exfalso
      unfold Lad.confErr at he
      rw [hp] at he
      split at he <;> cases he
    | cons x r => exact conf_yes B g v L now w h hk.len x r hp he
  · rw [if_neg he, if_neg he]
    refine (conf_no B g v L now w h hk.len he).mono ?_
    rintro e w' ⟨rfl, hm⟩
    exact LadPost.same h hm
theorem hold_step (B g : Nat) (v : Value) (L : Lad) (w : World) (h : IsL w B g v L) (n : Nat) (hn : n ≤ 1048576) (hk : L.Ok n) (k now : Int) :
    Calls Try.prog 17 #[.pointer (some ⟨g, 0, none⟩), .int .i64 k, .int .i64 now] w (LadPost B g v (L.afterHold k now) (.int .i64 (L.holdErr k now)) w) := by
  unfold Lad.afterHold Lad.duel
  by_cases he : L.holdErr k now = 0
  · rw [if_pos he, he]
    have he2 := he
    unfold Lad.holdErr at he2
    split at he2
    · cases he2
    rename_i ht
    cases hf : L.pending.findIdx? (fun p => p.number == k) with
    | none => rw [hf] at he2; cases he2
    | some i =>
      obtain ⟨x, hx⟩ := found_at hf
      rw [hf] at he2
      simp only [hx] at he2 ⊢
      split at he2
      · cases he2
      · have hm := hk.p x (List.mem_of_getElem? hx)
        refine (hold_yes B g v L k now w h hk.len i x hf hx (by simpa using ht) (by omega) ⟨hm.2.2.1, by have := hm.2.2.2.1; omega⟩).mono ?_
        rintro e w' ⟨rfl, h1, h2⟩
        exact ⟨v, rfl, h1, h2, fun _ hx => .inl hx⟩
  · rw [if_neg he]
    refine (hold_no B g v L k now w h hk.len he).mono ?_
    rintro e w' ⟨rfl, hm⟩
    exact LadPost.same h hm
theorem rel_step (B g : Nat) (v : Value) (L : Lad) (w : World) (h : IsL w B g v L) (n : Nat) (hn : n ≤ 1048576) (hk : L.Ok n) (k : Int) :
    Calls Try.prog 18 #[.pointer (some ⟨g, 0, none⟩), .int .i64 k] w (LadPost B g v (L.afterRel k) (.int .i64 (L.relErr k)) w) := by
  unfold Lad.afterRel Lad.duel
  by_cases he : L.relErr k = 0
  · rw [if_pos he, he]
    have he2 := he
    unfold Lad.relErr at he2
    cases hf : L.pending.findIdx? (fun p => p.number == k) with
    | none => rw [hf] at he2; cases he2
    | some i =>
      obtain ⟨x, hx⟩ := found_at hf
      rw [hf] at he2
      simp only [hx] at he2 ⊢
      split at he2
      · cases he2
      · have hm := hk.p x (List.mem_of_getElem? hx)
        refine (release_yes B g v L k w h hk.len i x hf hx ⟨by have := hm.2.2.1; omega, by have := hm.2.2.2.1; omega⟩).mono ?_
        rintro e w' ⟨rfl, h1, h2⟩
        exact ⟨v, rfl, h1, h2, fun _ hx => .inl hx⟩
  · rw [if_neg he]
    refine (release_no B g v L k w h hk.len he).mono ?_
    rintro e w' ⟨rfl, hm⟩
    exact LadPost.same h hm
/-- What stands behind a Drop: the ladder, and the list that was told, which is its asker's. -/
def DropQ (B g : Nat) (v : Value) (L : Lad) (k : Int) (w : World) (e : Ending) (w' : World) : Prop :=
  ∃ r v', e = .returned (.tuple #[r, .int .i64 (L.dropErr k)]) ∧ OwnP w' w.heap.size r (L.outDrop k) ∧ IsL w' B g v' (L.afterDrop k) ∧ Mod (foot g v) w w' ∧ v'.ownBlock = v.ownBlock
theorem drop_step (B g : Nat) (v : Value) (L : Lad) (w : World) (h : IsL w B g v L) (n : Nat) (hk : L.Ok n) (k : Int) :
    Calls Try.prog 16 #[.pointer (some ⟨g, 0, none⟩), .int .i64 k] w (DropQ B g v L k w) := by
  unfold DropQ Lad.afterDrop Lad.dropErr Lad.outDrop
  cases hf : L.pending.findIdx? (fun p => p.number == k) with
  | none =>
    refine (drop_no B g v L k w h hk.len hf).mono ?_
    rintro e w' ⟨rfl, hm⟩
    exact ⟨_, v, rfl, OwnN.nil _ _ _ _ _, h.mod0 hm, hm.mono (by simp), rfl⟩
  | some i =>
    obtain ⟨x, hx⟩ := found_at hf
    exact drop_yes B g v L k w h hk.len i x hf hx
end Go.Proofs.Ytmjdfglidfdkaaa
