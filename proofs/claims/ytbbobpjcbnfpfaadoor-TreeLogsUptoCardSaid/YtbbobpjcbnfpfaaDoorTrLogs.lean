/- Three logs and the reference's three, in memory. No condition. -/
import Derived.Test.YtbbobpjcbnfpfaaDoorTrRLogs
import Derived.Test.YtbbobpjcbnfpfaaDoorTrAwake
import Derived.Test.YtbbobpjcbnfpfaaDoorTrLend
import Derived.Test.YtbbobpjcbnfpfaaDoorTrSame
namespace Go.Proofs.YtbbobpjcbnfpfaaDoor
open Go.RowKit
/-- A log of the program's. -/
structure PL where
  g : Nat
  size : Nat
  v : Value
  front : List Bs
/-- One of the reference's. -/
structure QL where
  size : Nat
  u : Value
  front : List Bs
def lptr (g : Nat) : Value := .pointer (some ⟨g, 0, none⟩)
structure PSt (w : World) (B A : Nat) (xs : List PL) : Prop where
  am : w.heap[A]? = some (.cells (xs.map fun (x : PL) => lptr x.g).toArray 74 (0, 0))
  len : xs.length = 3
  each : ∀ x ∈ xs, IsLog w B x.g x.size x.v x.front
  apart : ∀ (i j : Nat) (x y : PL), xs[i]? = some x → xs[j]? = some y → i ≠ j → x.g ≠ y.g ∧ ∀ z, x.v.ownBlock = some z → y.v.ownBlock ≠ some z
structure QSt (w : World) (B D : Nat) (ys : List QL) : Prop where
  dm : w.heap[D]? = some (.cells (ys.flatMap fun (y : QL) => [.int .i64 y.size, y.u]).toArray 77 (0, 0))
  len : ys.length = 3
  each : ∀ y ∈ ys, OwnD w B y.u y.front
/-- The program's lists are not the reference's. -/
def Cross (xs : List PL) (ys : List QL) : Prop := ∀ x ∈ xs, ∀ y ∈ ys, ∀ z, x.v.ownBlock = some z → y.u.ownBlock ≠ some z
theorem own_ne_t {w : World} {B g : Nat} {v : Value} {l : List Bs} {C : Array Value} {t : TypeId} (h : OwnD w B v l) (hg : w.heap[g]? = some (.cells C t (0, 0))) (ht : t ≠ 24) : v.ownBlock ≠ some g := by
  intro hx
  obtain ⟨C', hC⟩ := h.type g hx
  rw [hg] at hC
  injection hC with hC
  injection hC with _ h2 _
  exact ht h2
theorem blk_ne {w : World} {g b : Nat} {C C' : Array Value} {t t' : TypeId} (h : w.heap[g]? = some (.cells C t (0, 0))) (h' : w.heap[b]? = some (.cells C' t' (0, 0))) (ht : t ≠ t') : g ≠ b := by
  rintro rfl
  rw [h] at h'
  injection h' with h'
  injection h' with _ h2 _
  exact ht h2
theorem mem_foot {g x : Nat} {v : Value} (h : x ∈ g :: v.ownBlock.toList) : x = g ∨ v.ownBlock = some x := by
  rcases List.mem_cons.1 h with h | h
  · exact .inl h
  · refine .inr ?_
    cases hv : v.ownBlock with
    | none => rw [hv] at h; simp at h
    | some z => rw [hv] at h; simp at h; rw [h]
/-- What was there is not what is new. -/
theorem fresh_ne {w : World} {v' v u : Value} (h : v'.ownBlock = v.ownBlock ∨ ∃ b, v'.ownBlock = some b ∧ w.heap.size ≤ b) (hd : ∀ z, v.ownBlock = some z → u.ownBlock ≠ some z) (hu : ∀ z, u.ownBlock = some z → z < w.heap.size) : ∀ z, v'.ownBlock = some z → u.ownBlock ≠ some z := by
  intro z hz hz2
  rcases h with h | ⟨b, hb, hb2⟩
  · exact hd z (h ▸ hz) hz2
  · rw [hb] at hz
    injection hz with hz
    have := hu z hz2
    omega
theorem set_get {α : Type} {l : List α} {k i : Nat} {x y : α} (hk : k < l.length) (h : (l.set k x)[i]? = some y) : (k = i ∧ y = x) ∨ (k ≠ i ∧ l[i]? = some y) := by
  by_cases hki : k = i
  · subst hki
    rw [List.getElem?_set_self hk] at h
    exact .inl ⟨rfl, (Option.some.inj h).symm⟩
  · rw [List.getElem?_set_ne hki] at h
    exact .inr ⟨hki, h⟩
namespace PSt
variable {a w w' : World} {B A : Nat} {xs : List PL}
theorem mod {S : List Nat} (h : PSt a B A xs) (m : Mod S a w) (hA : A ∉ S) (hg : ∀ x ∈ xs, x.g ∉ S) (hv : ∀ x ∈ xs, ∀ z ∈ S, x.v.ownBlock ≠ some z) : PSt w B A xs :=
  ⟨m.get h.am hA, h.len, fun x hx => (h.each x hx).mod m (hg x hx) (hv x hx), h.apart⟩
theorem mod0 (h : PSt a B A xs) (m : Mod [] a w) : PSt w B A xs := h.mod m (by simp) (by simp) (by simp)
theorem get (h : PSt w B A xs) {k : Nat} (hk : k < 3) : ∃ x, xs[k]? = some x := ⟨xs[k]'(by rw [h.len]; exact hk), List.getElem?_eq_getElem _⟩
theorem cell (h : PSt w B A xs) {k : Nat} {x : PL} (hx : xs[k]? = some x) : w.cell? ⟨A, k, none⟩ = some (lptr x.g) := by
  rw [cell_blk h.am, List.getElem?_toArray, List.getElem?_map, hx]; rfl
theorem ne (h : PSt w B A xs) {x : PL} (hx : x ∈ xs) : x.g ≠ A := blk_ne (h.each x hx).blk h.am (by decide)
theorem vne (h : PSt w B A xs) {x : PL} (hx : x ∈ xs) : x.v.ownBlock ≠ some A := own_ne_t (h.each x hx).own h.am (by decide)
theorem vg (h : PSt w B A xs) {x y : PL} (hx : x ∈ xs) (hy : y ∈ xs) : x.v.ownBlock ≠ some y.g := own_ne (h.each x hx).own (h.each y hy).blk
/-- A leaf more on the k-th. -/
theorem add {k s' : Nat} {f' : List Bs} {x : PL} (h : PSt w B A xs) (hx : xs[k]? = some x) (ha : Added w B x.g s' x.v f' w') :
    ∃ v', PSt w' B A (xs.set k ⟨x.g, s', v', f'⟩) ∧ (v'.ownBlock = x.v.ownBlock ∨ ∃ b, v'.ownBlock = some b ∧ w.heap.size ≤ b) := by
  obtain ⟨v', hl, ho⟩ := ha.log
  have hxm := List.mem_of_getElem? hx
  have hk : k < xs.length := (List.getElem?_eq_some_iff.1 hx).1
  refine ⟨v', ⟨?_, by rw [List.length_set]; exact h.len, fun y hy => ?_, fun i j y z hi hj hij => ?_⟩, ho⟩
  · have h1 := ha.mod.get h.am (fun hm => by
      rcases mem_foot hm with hm | hm
      · exact h.ne hxm hm.symm
      · exact h.vne hxm hm)
    rw [h1, List.map_set]
    have : (xs.map fun x => lptr x.g).set k (lptr x.g) = xs.map fun x => lptr x.g := by
      apply List.ext_getElem?
      intro i
      rw [List.getElem?_set]
      split
      · rename_i hki
        subst hki
        rw [if_pos (by simpa using hk), List.getElem?_map, hx]; rfl
      · rfl
    rw [this]
  · obtain ⟨i, hi⟩ := List.mem_iff_getElem?.1 hy
    rcases set_get hk hi with ⟨hki, rfl⟩ | ⟨hki, hi⟩
    · exact hl
    · have hym := List.mem_of_getElem? hi
      obtain ⟨h1, h2⟩ := h.apart k i x y hx hi hki
      refine (h.each y hym).mod ha.mod (fun hm => ?_) (fun z hz hyz => ?_)
      · rcases mem_foot hm with hm | hm
        · exact h1 hm.symm
        · exact h.vg hxm hym hm
      · rcases mem_foot hz with rfl | hz
        · exact h.vg hym hxm hyz
        · exact h2 z hz hyz
  · have old : ∀ i y, xs[i]? = some y → k ≠ i → (∀ z, v'.ownBlock = some z → y.v.ownBlock ≠ some z) := fun i y hy hki =>
      fresh_ne ho (h.apart k i x y hx hy hki).2 (h.each y (List.mem_of_getElem? hy)).own.lt
    rcases set_get hk hi with ⟨hki, rfl⟩ | ⟨hki, hi⟩
    · rcases set_get hk hj with ⟨hkj, rfl⟩ | ⟨hkj, hj⟩
      · exact absurd (hki.symm.trans hkj) hij
      · exact ⟨(h.apart k j x z hx hj hkj).1, old j z hj hkj⟩
    · rcases set_get hk hj with ⟨hkj, rfl⟩ | ⟨hkj, hj⟩
      · exact ⟨fun he => (h.apart k i x y hx hi hki).1 he.symm, fun q h1 h2 => old i y hi hki q h2 h1⟩
      · exact h.apart i j y z hi hj hij
/-- Another log in the k-th's place: it was made just now, and is written into the list. -/
theorem put {k s' g' : Nat} {u' : Value} {f' : List Bs} (h : PSt w B A xs) (hk : k < 3) (hn : IsLog w B g' s' u' f') (hg : ∀ y ∈ xs, y.g ≠ g') (hu : ∀ y ∈ xs, ∀ z, u'.ownBlock = some z → y.v.ownBlock ≠ some z) : PSt (w.setCell ⟨A, k, none⟩ (lptr g')) B A (xs.set k ⟨g', s', u', f'⟩) := by
  have hk' : k < xs.length := by rw [h.len]; exact hk
  have m : Mod [A] w (w.setCell ⟨A, k, none⟩ (lptr g')) := (Mod.refl [A] w).setCell (.inl (by simp)) _
  have hAg : g' ≠ A := blk_ne hn.blk h.am (by decide)
  have hAu : u'.ownBlock ≠ some A := own_ne_t hn.own h.am (by decide)
  refine ⟨?_, by rw [List.length_set]; exact h.len, fun y hy => ?_, fun i j y z hi hj hij => ?_⟩
  · have h1 := hp_sc (j := k) (v := lptr g') h.am
    rw [h1, List.setIfInBounds_toArray, List.map_set]
  · obtain ⟨i, hi⟩ := List.mem_iff_getElem?.1 hy
    rcases set_get hk' hi with ⟨hki, rfl⟩ | ⟨hki, hi⟩
    · exact hn.mod m (by simpa using hAg) (fun z hz => by rw [List.mem_singleton.1 hz]; exact hAu)
    · have hym := List.mem_of_getElem? hi
      exact (h.each y hym).mod m (by simpa using h.ne hym) (fun z hz => by rw [List.mem_singleton.1 hz]; exact h.vne hym)
  · rcases set_get hk' hi with ⟨hki, rfl⟩ | ⟨hki, hi⟩
    · rcases set_get hk' hj with ⟨hkj, rfl⟩ | ⟨hkj, hj⟩
      · exact absurd (hki.symm.trans hkj) hij
      · have hzm := List.mem_of_getElem? hj
        exact ⟨fun he => hg z hzm he.symm, hu z hzm⟩
    · rcases set_get hk' hj with ⟨hkj, rfl⟩ | ⟨hkj, hj⟩
      · have hym := List.mem_of_getElem? hi
        exact ⟨hg y hym, fun q h1 h2 => hu y hym q h2 h1⟩
      · exact h.apart i j y z hi hj hij
end PSt
namespace QSt
variable {a w w' : World} {B D : Nat} {ys : List QL}
theorem mod {S : List Nat} (h : QSt a B D ys) (m : Mod S a w) (hD : D ∉ S) (hv : ∀ y ∈ ys, ∀ z ∈ S, y.u.ownBlock ≠ some z) : QSt w B D ys :=
  ⟨m.get h.dm hD, h.len, fun y hy => (h.each y hy).mod m (hv y hy)⟩
theorem mod0 (h : QSt a B D ys) (m : Mod [] a w) : QSt w B D ys := h.mod m (by simp) (by simp)
theorem get (h : QSt w B D ys) {k : Nat} (hk : k < 3) : ∃ y, ys[k]? = some y := ⟨ys[k]'(by rw [h.len]; exact hk), List.getElem?_eq_getElem _⟩
theorem flat_get (ys : List QL) : ∀ (k : Nat) (y : QL), ys[k]? = some y → (ys.flatMap fun y => [.int .i64 y.size, y.u] : List Value)[k * 2]? = some (.int .i64 y.size) ∧ (ys.flatMap fun y => [.int .i64 y.size, y.u] : List Value)[k * 2 + 1]? = some y.u := by
  induction ys with
  | nil => intro k y h; simp at h
  | cons x ys ih =>
    intro k y h
    cases k with
    | zero => simp at h; subst h; exact ⟨rfl, rfl⟩
    | succ k =>
      have := ih k y (by simpa using h)
      rw [show (k + 1) * 2 = k * 2 + 2 by omega]
      exact this
theorem flat_set (ys : List QL) : ∀ (k : Nat) (y : QL), k < ys.length → (((ys.flatMap fun y => [.int .i64 y.size, y.u] : List Value).set (k * 2) (.int .i64 y.size)).set (k * 2 + 1) y.u) = ((ys.set k y).flatMap fun y => [.int .i64 y.size, y.u] : List Value) := by
  induction ys with
  | nil => intro k y h; simp at h
  | cons x ys ih =>
    intro k y h
    cases k with
    | zero => rfl
    | succ k =>
      have := ih k y (by simpa using h)
      rw [show (k + 1) * 2 = k * 2 + 2 by omega, List.set_cons_succ, List.flatMap_cons, List.flatMap_cons, ← this]
      rfl
theorem c0 (h : QSt w B D ys) {k : Nat} {y : QL} (hy : ys[k]? = some y) : w.cell? ⟨D, k * 2, none⟩ = some (.int .i64 y.size) := by
  rw [cell_blk h.dm, List.getElem?_toArray]; exact (flat_get ys k y hy).1
theorem c1 (h : QSt w B D ys) {k : Nat} {y : QL} (hy : ys[k]? = some y) : w.cell? ⟨D, k * 2 + 1, none⟩ = some y.u := by
  rw [cell_blk h.dm, List.getElem?_toArray]; exact (flat_get ys k y hy).2
theorem une (h : QSt w B D ys) {y : QL} (hy : y ∈ ys) : y.u.ownBlock ≠ some D := own_ne_t (h.each y hy) h.dm (by decide)
/-- Another one in the k-th's place. -/
theorem put {k : Nat} (y : QL) (h : QSt w B D ys) (hk : k < 3) (ho : OwnD w B y.u y.front) : QSt ((w.setCell ⟨D, k * 2, none⟩ (.int .i64 y.size)).setCell ⟨D, k * 2 + 1, none⟩ y.u) B D (ys.set k y) := by
  have hk' : k < ys.length := by rw [h.len]; exact hk
  have m : Mod [D] w ((w.setCell ⟨D, k * 2, none⟩ (.int .i64 y.size)).setCell ⟨D, k * 2 + 1, none⟩ y.u) := ((Mod.refl [D] w).setCell (.inl (by simp)) _).setCell (.inl (by simp)) _
  refine ⟨?_, by rw [List.length_set]; exact h.len, fun z hz => ?_⟩
  · have h1 := hp_sc (j := k * 2 + 1) (v := y.u) (hp_sc (j := k * 2) (v := .int .i64 y.size) h.dm)
    rw [h1, List.setIfInBounds_toArray, List.setIfInBounds_toArray, flat_set ys k y hk']
  · obtain ⟨i, hi⟩ := List.mem_iff_getElem?.1 hz
    rcases set_get hk' hi with ⟨hki, rfl⟩ | ⟨hki, hi⟩
    · exact ho.mod m (fun q hq => by rw [List.mem_singleton.1 hq]; exact own_ne_t ho h.dm (by decide))
    · have hzm := List.mem_of_getElem? hi
      exact (h.each z hzm).mod m (fun q hq => by rw [List.mem_singleton.1 hq]; exact h.une hzm)
end QSt
theorem mem_set_or {α : Type} {l : List α} {k : Nat} {x y : α} (h : y ∈ l.set k x) : y = x ∨ y ∈ l := by
  obtain ⟨i, hi⟩ := List.mem_iff_getElem?.1 h
  by_cases hk : k < l.length
  · rcases set_get hk hi with ⟨_, rfl⟩ | ⟨_, hi⟩
    · exact .inl rfl
    · exact .inr (List.mem_of_getElem? hi)
  · rw [List.set_eq_of_length_le (by omega)] at h
    exact .inr h
theorem Cross.setP {xs : List PL} {ys : List QL} (h : Cross xs ys) (k : Nat) (x : PL) (hx : ∀ y ∈ ys, ∀ z, x.v.ownBlock = some z → y.u.ownBlock ≠ some z) : Cross (xs.set k x) ys := by
  intro a ha y hy
  rcases mem_set_or ha with rfl | ha
  · exact hx y hy
  · exact h a ha y hy
theorem Cross.setQ {xs : List PL} {ys : List QL} (h : Cross xs ys) (k : Nat) (y : QL) (hy : ∀ x ∈ xs, ∀ z, x.v.ownBlock = some z → y.u.ownBlock ≠ some z) : Cross xs (ys.set k y) := by
  intro a ha b hb
  rcases mem_set_or hb with rfl | hb
  · exact hy a ha
  · exact h a ha b hb
end Go.Proofs.YtbbobpjcbnfpfaaDoor
namespace Go.Proofs.YtbbobpjcbnfpfaaDoor
open Go.RowKit
def addN (s : Nat) : Int := if s < 1099511627776 then s else -1
def addS (s : Nat) : Nat := if s < 1099511627776 then s + 1 else s
def addFr (hf : Bs → Bs) (s : Nat) (f : List Bs) (d : Bs) : List Bs := if s < 1099511627776 then addF hf s f (leafH hf d) else f
theorem add_all {hf : Bs → Bs} (B g size : Nat) (v : Value) (front : List Bs) (p : Option Addr) (n c : Nat) (d : Bs) (w : World) (h : IsLog w B g size v front) (hn : n = d.length) (hr : Rd V8 w p c d) (hd : d.length ≤ 4398046511104) (H : Hs hf w) (T : TabZ w) :
    Calls Tryd.prog 49 #[.pointer (some ⟨g, 0, none⟩), .slice p n c] w fun e w' => e = .returned (.int .i64 (addN size)) ∧ Added w B g (addS size) v (addFr hf size front d) w' := by
  by_cases hs : size < 1099511627776
  · unfold addN addS addFr
    rw [if_pos hs, if_pos hs, if_pos hs]
    exact add_any B g size v front p n c d w h hs hn hr hd H T
  · have hs2 : size = 1099511627776 := by have := h.sz; omega
    unfold addN addS addFr
    rw [if_neg hs, if_neg hs, if_neg hs]
    refine (add_full B g size v front p n c w h hs2).mono ?_
    rintro e w' ⟨rfl, rfl⟩
    exact ⟨rfl, ⟨v, h, .inl rfl⟩, Mod.refl _ _⟩
theorem radd_all {hf : Bs → Bs} (B size n c : Nat) (p : Option Addr) (front : List Bs) (q : Option Addr) (k d : Nat) (leaf : Bs) (w : World) (hsz : size ≤ 1099511627776) (hB : B ≤ w.heap.size) (hn : n = front.length) (ho : OwnD w B (.slice p n c) front) (ha : All32 front) (hc : front.length = ones size) (hk : k = leaf.length) (hq : Rd V8 w q d leaf) (hl : leaf.length ≤ 4398046511104) (H : Hs hf w) (R : Rf w) :
    Calls Tryd.prog 50 #[lgV size (.slice p n c), .slice q k d] w fun e w' => ∃ v, e = .returned (.tuple #[lgV (addS size : Nat) v, .int .i64 (addN size)]) ∧ OwnD w' B v (addFr hf size front leaf) ∧ (∀ b, v.ownBlock = some b → (Value.slice p n c).ownBlock = some b ∨ w.heap.size ≤ b) ∧ Mod [] w w' := by
  by_cases hs : size < 1099511627776
  · unfold addN addS addFr
    rw [if_pos hs, if_pos hs, if_pos hs]
    obtain ⟨p', c', e, hr, _⟩ := ho.rd
    injection e with e1 e2 e3
    subst e1 e3
    refine (radd_any size n c p front q k d leaf w hs hn hr ha hc hk hq hl H R).mono ?_
    rintro e w' ⟨v, rfl, hv, m⟩
    exact ⟨v, rfl, hv.mono hB, fun b hb => .inr (hv.row b hb), m⟩
  · have hs2 : size = 1099511627776 := by omega
    unfold addN addS addFr
    rw [if_neg hs, if_neg hs, if_neg hs]
    refine (radd_full size n c p q k d w hs2).mono ?_
    rintro e w' ⟨rfl, m⟩
    exact ⟨_, rfl, ho.mod0 m, fun b hb => .inl hb, m⟩
/-- What stands behind the reference's Add: its log in a block, either order. -/
def Cut13 (B s1 b13 : Nat) (pn : Option Addr) (cn : Nat) (f1 : List Bs) (u : Value) (w7 wx : World) : Prop :=
  w7.heap.size ≤ b13 ∧ wx.heap[b13]? = some (.cells #[.int .i64 (s1 : Nat), .slice pn f1.length cn] 76) ∧ OwnD wx B (.slice pn f1.length cn) f1 ∧ (∀ b, (Value.slice pn f1.length cn).ownBlock = some b → u.ownBlock = some b ∨ w7.heap.size ≤ b) ∧ Mod [] w7 wx
theorem cut13A {B s1 : Nat} {pn : Option Addr} {cn : Nat} {f1 : List Bs} {u : Value} {w7 w8 : World} (hon : OwnD w8 B (.slice pn f1.length cn) f1) (hov : ∀ b, (Value.slice pn f1.length cn).ownBlock = some b → u.ownBlock = some b ∨ w7.drew.heap.size ≤ b) (m : Mod [] w7 w8) :
    Cut13 B s1 w8.heap.size pn cn f1 u w7 (w8.alloc (.cells #[.int .i64 (s1 : Nat), .slice pn f1.length cn] 76)) :=
  ⟨m.size, hp_new _ _ _ rfl, hon.alloc _, hov, m.alloc _⟩
theorem cut13B {B s1 : Nat} {pn : Option Addr} {cn : Nat} {f1 : List Bs} {u : Value} {w7 w8 : World} (hB : B ≤ w7.heap.size) (hon : OwnD w8 B (.slice pn f1.length cn) f1) (hov : ∀ b, (Value.slice pn f1.length cn).ownBlock = some b → u.ownBlock = some b ∨ (w7.alloc (.cells #[.int .i64 0, .slice none 0 0] 76)).drew.heap.size ≤ b) (m : Mod [] w7 w8) (hk : w8.heap[w7.heap.size]? = some (.cells #[.int .i64 0, .slice none 0 0] 76)) :
    Cut13 B s1 w7.heap.size pn cn f1 u w7 ((w8.setCell ⟨w7.heap.size, 0, none⟩ (.int .i64 (s1 : Nat))).setCell ⟨w7.heap.size, 1, none⟩ (.slice pn f1.length cn)) := by
  have m99 : Mod [w7.heap.size] w8 ((w8.setCell ⟨w7.heap.size, 0, none⟩ (.int .i64 (s1 : Nat))).setCell ⟨w7.heap.size, 1, none⟩ (.slice pn f1.length cn)) := ((Mod.refl [w7.heap.size] w8).setCell (.inl (by simp)) _).setCell (.inl (by simp)) _
  refine ⟨Nat.le_refl _, hp_sc (j := 1) (v := .slice pn f1.length cn) (hp_sc (j := 0) (v := .int .i64 (s1 : Nat)) hk), hon.mod m99 (fun y hy => by rw [List.mem_singleton.1 hy]; exact own_ne_t hon hk (by decide)), fun b hb => (hov b hb).imp id (fun h => ?_), (m.setCell (.inr (Nat.le_refl _)) _).setCell (.inr (Nat.le_refl _)) _⟩
  have h2 : (w7.alloc (.cells #[.int .i64 0, .slice none 0 0] 76)).drew.heap.size = w7.heap.size + 1 := by simp
  rw [h2] at h
  omega
end Go.Proofs.YtbbobpjcbnfpfaaDoor
namespace Go.Proofs.YtbbobpjcbnfpfaaDoor
open Go.RowKit
attribute [local go_sem high] one8 st8 cm8 b_and8 b_and8r b_and8l b_or8 b_or8r b_or8l b_xor8 b_xor8r b_xor8l b_andNot8 b_andNot8r b_andNot8l b_add8 b_add8r b_add8l b_sub8 b_sub8r b_sub8l b_mul8 b_mul8r b_mul8l b_eql8 b_eql8r b_eql8l b_neq8 b_neq8r b_neq8l b_lss8 b_lss8r b_lss8l b_leq8 b_leq8r b_leq8l b_gtr8 b_gtr8r b_gtr8l b_geq8 b_geq8r b_geq8l b_quo8r b_rem8r b_shl8r b_shr8r b_shl8l b_shr8l u_xor8 g_eql8 g_neq8 g_eql8' g_neq8' one32 st32 cm32 b_and32 b_and32r b_and32l b_or32 b_or32r b_or32l b_xor32 b_xor32r b_xor32l b_andNot32 b_andNot32r b_andNot32l b_add32 b_add32r b_add32l b_sub32 b_sub32r b_sub32l b_mul32 b_mul32r b_mul32l b_eql32 b_eql32r b_eql32l b_neq32 b_neq32r b_neq32l b_lss32 b_lss32r b_lss32l b_leq32 b_leq32r b_leq32l b_gtr32 b_gtr32r b_gtr32l b_geq32 b_geq32r b_geq32l b_quo32r b_rem32r b_shl32r b_shr32r b_shl32l b_shr32l u_xor32 g_eql32 g_neq32 g_eql32' g_neq32' one64 st64 cm64 b_and64 b_and64r b_and64l b_or64 b_or64r b_or64l b_xor64 b_xor64r b_xor64l b_andNot64 b_andNot64r b_andNot64l b_add64 b_add64r b_add64l b_sub64 b_sub64r b_sub64l b_mul64 b_mul64r b_mul64l b_eql64 b_eql64r b_eql64l b_neq64 b_neq64r b_neq64l b_lss64 b_lss64r b_lss64l b_leq64 b_leq64r b_leq64l b_gtr64 b_gtr64r b_gtr64l b_geq64 b_geq64r b_geq64l b_quo64r b_rem64r b_shl64r b_shr64r b_shl64l b_shr64l u_xor64 g_eql64 g_neq64 g_eql64' g_neq64' c_u8_u8 c_u8_u32 c_u8_u64 c_i_u8 c_u32_u8 c_u32_u32 c_u32_u64 c_i_u32 c_u64_u8 c_u64_u32 c_u64_u64 c_i_u64 c_u8_i c_u32_i
attribute [local go_sem ↓] ce8 ce32 ce64
attribute [local go_sem ↓] sliced_slp loadO26 storeO26 buildO24 buildSlO42
theorem loadO80 (p : Value) : Instr.loadAt 80 p = LoadO 80 p := rfl
attribute [local go_sem ↓] loadO80
theorem info80' : (Tryd.prog.info? 80).map (·.size) = some 5 := by kernel_rfl
theorem pick_any (c n : Int) (w : World) (h0 : -9223372036854775808 ≤ c) (h1 : c ≤ 9223372036854775807) (hn : 0 < n) (hn1 : n ≤ 9223372036854775807) :
    Calls Tryd.prog 48 #[.int .i64 c, .int .i64 n] w fun e w' => ∃ r : Nat, (r : Int) < n ∧ e = .returned (.int .i64 r) ∧ w' = w := by
  obtain ⟨k, rfl⟩ := Int.eq_ofNat_of_zero_le (show 0 ≤ n by omega)
  by_cases hc : c < 0
  · have h2 : 0 ≤ -(c + 1) := by omega
    obtain ⟨m, hm⟩ := Int.eq_ofNat_of_zero_le h2
    have hm1 : (m : Int) ≤ 9223372036854775807 := by omega
    have hmk : m % k < k := Nat.mod_lt _ (by omega)
    go_enter Tryd.func48, Tryd.ntmps48
    go_wp2_with fail
    go_ret
    exact ⟨m % k, by omega, by simp, rfl⟩
  · obtain ⟨m, rfl⟩ := Int.eq_ofNat_of_zero_le (show 0 ≤ c by omega)
    have hmk : m % k < k := Nat.mod_lt _ (by omega)
    go_enter Tryd.func48, Tryd.ntmps48
    go_wp2_with fail
    go_ret
    exact ⟨m % k, by omega, by simp, rfl⟩
/-- A step of a script. -/
structure Lo where
  kind : Int
  on : Int
  size : Int
  leaf : SlR
  fp : Option Addr
  fc : Nat
  front : List Bs
def Lo.cells (x : Lo) : List Value := [.int .i64 x.kind, .int .i64 x.on, .int .i64 x.size, .slice x.leaf.p x.leaf.d.length x.leaf.cap, .slice x.fp x.front.length x.fc]
theorem Lo.cells_len (x : Lo) : x.cells.length = 5 := rfl
structure Lo.In (W : World) (x : Lo) : Prop where
  o0 : -9223372036854775808 ≤ x.on
  o1 : x.on ≤ 9223372036854775807
  leaf : Rd V8 W x.leaf.p x.leaf.cap x.leaf.d
  front : RdD W x.fp x.fc x.front
  f32 : All32 x.front
  ll : x.leaf.d.length ≤ 1048576
  lf : x.front.length ≤ 1048576
/-- The three logs and the reference's, alike. -/
structure LSt (w0 w : World) (A D : Nat) (xs : List PL) (ys : List QL) : Prop where
  p : PSt w w0.heap.size A xs
  q : QSt w w0.heap.size D ys
  x : Cross xs ys
  eq : ∀ (k : Nat) (x : PL) (y : QL), xs[k]? = some x → ys[k]? = some y → x.size = y.size ∧ x.front = y.front
  mod : Mod [] w0 w
  hA : w0.heap.size ≤ A
  hD : w0.heap.size ≤ D
theorem LSt.mod0 {w0 a w : World} {A D : Nat} {xs : List PL} {ys : List QL} (h : LSt w0 a A D xs ys) (m : Mod [] a w) : LSt w0 w A D xs ys := ⟨h.p.mod0 m, h.q.mod0 m, h.x, h.eq, h.mod.trans0 m, h.hA, h.hD⟩
/-- A block of digests that is none of theirs was written. -/
theorem LSt.mod1 {w0 a w : World} {A D e : Nat} {C : Array Value} {xs : List PL} {ys : List QL} (h : LSt w0 a A D xs ys) (m : Mod [e] a w) (hb : a.heap[e]? = some (.cells C 24 (0, 0))) (he : w0.heap.size ≤ e) (hv : ∀ x ∈ xs, x.v.ownBlock ≠ some e) (hu : ∀ y ∈ ys, y.u.ownBlock ≠ some e) : LSt w0 w A D xs ys :=
  ⟨h.p.mod m (by simpa using blk_ne h.p.am hb (by decide)) (fun x hx => by simpa using blk_ne (h.p.each x hx).blk hb (by decide)) (fun x hx z hz => by rw [List.mem_singleton.1 hz]; exact hv x hx), h.q.mod m (by simpa using blk_ne h.q.dm hb (by decide)) (fun y hy z hz => by rw [List.mem_singleton.1 hz]; exact hu y hy), h.x, h.eq, h.mod.trans m (fun b hb => by rw [List.mem_singleton.1 hb]; exact .inr he), h.hA, h.hD⟩
def mk88 : Bs := 88 :: zeros 31
theorem mk88_len : mk88.length = 32 := by rw [mk88, List.length_cons, zeros_length]
theorem built88 : Tryd.prog.built 24 [(0, .int .u8 88)] = some (mk88.map V8).toArray := by kernel_rfl
theorem run_mk88 (w : World) : (BuildO 24 #[(0, .int .u8 88)]).run Tryd.prog w = .ok (dv mk88) w := run_build w _ _ _ built88
theorem nilptr_put (xs : List PL) (x : PL) (r : Nat) : ((xs.map (fun x => lptr x.g) ++ List.replicate (r + 1) (Value.pointer none)).set xs.length (lptr x.g)) = (xs ++ [x]).map (fun x => lptr x.g) ++ List.replicate r (Value.pointer none) := by
  rw [List.set_append_right _ _ (by simp), List.length_map, Nat.sub_self, List.replicate_succ, List.set_cons_zero]
  simp
/-- Logs made one by one. -/
structure Made (w0 w : World) (A D : Nat) (xs : List PL) : Prop where
  am : w.heap[A]? = some (.cells (xs.map (fun x => lptr x.g) ++ List.replicate (3 - xs.length) (Value.pointer none)).toArray 74 (0, 0))
  dm : w.heap[D]? = some (.cells #[.int .i64 0, .slice none 0 0, .int .i64 0, .slice none 0 0, .int .i64 0, .slice none 0 0] 77 (0, 0))
  each : ∀ x ∈ xs, IsLog w w0.heap.size x.g x.size x.v x.front ∧ x.size = 0 ∧ x.front = []
  apart : ∀ (i j : Nat) (x y : PL), xs[i]? = some x → xs[j]? = some y → i ≠ j → x.g ≠ y.g ∧ ∀ z, x.v.ownBlock = some z → y.v.ownBlock ≠ some z
  mod : Mod [] w0 w
  hA : w0.heap.size ≤ A
  hD : w0.heap.size ≤ D
theorem Made.lst {w0 w : World} {A D : Nat} {xs : List PL} (h : Made w0 w A D xs) (hl : xs.length = 3) : LSt w0 w A D xs [⟨0, .slice none 0 0, []⟩, ⟨0, .slice none 0 0, []⟩, ⟨0, .slice none 0 0, []⟩] := by
  have hy : ∀ y ∈ ([⟨0, .slice none 0 0, []⟩, ⟨0, .slice none 0 0, []⟩, ⟨0, .slice none 0 0, []⟩] : List QL), y = ⟨0, .slice none 0 0, []⟩ := by
    intro y hy
    simpa using hy
  refine ⟨⟨?_, hl, fun x hx => (h.each x hx).1, h.apart⟩, ⟨h.dm, rfl, fun y h' => by rw [hy y h']; exact OwnN.nil _ _ _ _ _⟩, (fun x _ y h' z _ hz => by rw [hy y h'] at hz; cases hz), fun k x y hx h' => ?_, h.mod, h.hA, h.hD⟩
  · have := h.am
    rwa [hl, Nat.sub_self, List.replicate_zero, List.append_nil] at this
  · rw [hy y (List.mem_of_getElem? h')]
    exact (h.each x (List.mem_of_getElem? hx)).2
/-- One more. -/
theorem Made.more {w0 w w1 : World} {A D g : Nat} {u : Value} {xs : List PL} (h : Made w0 w A D xs) (hl : xs.length < 3) (hn : IsLog w1 w.heap.size g 0 u []) (m : Mod [] w w1) : Made w0 (w1.setCell ⟨A, xs.length, none⟩ (lptr g)) A D (xs ++ [⟨g, 0, u, []⟩]) := by
  have hA1 := m.get0 h.am
  have hD1 := m.get0 h.dm
  have m2 : Mod [A] w1 (w1.setCell ⟨A, xs.length, none⟩ (lptr g)) := (Mod.refl [A] w1).setCell (.inl (by simp)) _
  have hB := h.mod.size
  have old : ∀ x ∈ xs, x.g < w.heap.size ∧ ∀ z, x.v.ownBlock = some z → z < w.heap.size := fun x hx => ⟨(h.each x hx).1.lt, (h.each x hx).1.own.lt⟩
  refine ⟨?_, m2.get hD1 (by simpa using blk_ne hD1 hA1 (by decide)), fun x hx => ?_, fun i j x y hi hj hij => ?_, (h.mod.trans0 m).setCell (.inr h.hA) _, h.hA, h.hD⟩
  · have h1 := hp_sc (j := xs.length) (v := lptr g) hA1
    obtain ⟨r, hr⟩ : ∃ r, 3 - xs.length = r + 1 := ⟨2 - xs.length, by omega⟩
    rw [List.setIfInBounds_toArray, hr] at h1
    have h2 := nilptr_put xs ⟨g, 0, u, []⟩ r
    rw [h2] at h1
    rw [List.length_append, List.length_singleton, show 3 - (xs.length + 1) = r by omega]
    exact h1
  · rcases List.mem_append.1 hx with hx | hx
    · refine ⟨((h.each x hx).1.mod0 m).mod m2 (by simpa using blk_ne ((h.each x hx).1.mod0 m).blk hA1 (by decide)) (fun z hz => by rw [List.mem_singleton.1 hz]; exact own_ne_t ((h.each x hx).1.mod0 m).own hA1 (by decide)), (h.each x hx).2⟩
    · rw [List.mem_singleton.1 hx]
      have hn' : IsLog w1 w0.heap.size g 0 u [] := ⟨hn.blk, Nat.le_trans hB hn.base, hn.own.mono hB, hn.a32, hn.cnt, hn.sz⟩
      exact ⟨hn'.mod m2 (by simpa using blk_ne hn.blk hA1 (by decide)) (fun z hz => by rw [List.mem_singleton.1 hz]; exact own_ne_t hn.own hA1 (by decide)), rfl, rfl⟩
  · have cases' : ∀ (i : Nat) (x : PL), (xs ++ [⟨g, 0, u, []⟩])[i]? = some x → (xs[i]? = some x ∧ i < xs.length) ∨ (x = ⟨g, 0, u, []⟩ ∧ i = xs.length) := by
      intro i x hi
      by_cases h1 : i < xs.length
      · rw [List.getElem?_append_left h1] at hi; exact .inl ⟨hi, h1⟩
      · rw [List.getElem?_append_right (by omega)] at hi
        have h2 : i - xs.length = 0 := by
          have := (List.getElem?_eq_some_iff.1 hi).1
          simp at this
          omega
        rw [h2] at hi
        simp at hi
        exact .inr ⟨hi.symm, by omega⟩
    rcases cases' i x hi with ⟨h1, hi'⟩ | ⟨rfl, hi'⟩
    · rcases cases' j y hj with ⟨h2, _⟩ | ⟨rfl, _⟩
      · exact h.apart i j x y h1 h2 hij
      · obtain ⟨k1, k2⟩ := old x (List.mem_of_getElem? h1)
        exact ⟨by have := hn.base; simp only; omega, fun z hz hz2 => by have := k2 z hz; have := hn.own.row z hz2; omega⟩
    · rcases cases' j y hj with ⟨h2, _⟩ | ⟨rfl, hj'⟩
      · obtain ⟨k1, k2⟩ := old y (List.mem_of_getElem? h2)
        exact ⟨by have := hn.base; simp only; omega, fun z hz hz2 => by have := k2 z hz2; have := hn.own.row z hz; omega⟩
      · exact absurd (hi'.trans hj'.symm) hij
/-- The reference's k-th is written anew; the program's logs are as they were but for that. -/
theorem LSt.putQ {w0 w : World} {A D : Nat} {xs : List PL} {ys : List QL} {k : Nat} (y : QL) (p : PSt w w0.heap.size A xs) (q : QSt w w0.heap.size D ys) (c : Cross xs ys) (mod : Mod [] w0 w) (hA : w0.heap.size ≤ A) (hD : w0.heap.size ≤ D) (hk : k < 3) (ho : OwnD w w0.heap.size y.u y.front)
    (hx : ∀ x ∈ xs, ∀ z, x.v.ownBlock = some z → y.u.ownBlock ≠ some z) (heq : ∀ (j : Nat) (x : PL) (z : QL), xs[j]? = some x → (ys.set k y)[j]? = some z → x.size = z.size ∧ x.front = z.front) :
    LSt w0 ((w.setCell ⟨D, k * 2, none⟩ (.int .i64 y.size)).setCell ⟨D, k * 2 + 1, none⟩ y.u) A D xs (ys.set k y) := by
  have m : Mod [D] w ((w.setCell ⟨D, k * 2, none⟩ (.int .i64 y.size)).setCell ⟨D, k * 2 + 1, none⟩ y.u) := ((Mod.refl [D] w).setCell (.inl (by simp)) _).setCell (.inl (by simp)) _
  refine ⟨p.mod m (by simpa using blk_ne p.am q.dm (by decide)) (fun x hx' => by simpa using blk_ne (p.each x hx').blk q.dm (by decide)) (fun x hx' z hz => by rw [List.mem_singleton.1 hz]; exact own_ne_t (p.each x hx').own q.dm (by decide)), q.put y hk ho, c.setQ k y hx, heq, ?_, hA, hD⟩
  exact (mod.setCell (.inr hD) _).setCell (.inr hD) _
theorem QSt.offA {w w0 : World} {A D : Nat} {xs : List PL} {ys : List QL} {a : Addr} {v : Value} (q : QSt w w0.heap.size D ys) (p : PSt w w0.heap.size A xs) (ha : a.block = A) : QSt (w.setCell a v) w0.heap.size D ys := by
  have m : Mod [A] w (w.setCell a v) := (Mod.refl [A] w).setCell (.inl (by rw [ha]; simp)) _
  exact q.mod m (by simpa using blk_ne q.dm p.am (by decide)) (fun y hy z hz => by rw [List.mem_singleton.1 hz]; exact own_ne_t (q.each y hy) p.am (by decide))
/-- Both k-th ones are written anew. -/
theorem LSt.put {w0 w : World} {A D : Nat} {xs : List PL} {ys : List QL} {k s' g' : Nat} {u' : Value} {f' : List Bs} (y : QL) (p : PSt w w0.heap.size A xs) (q : QSt w w0.heap.size D ys) (c : Cross xs ys) (eq : ∀ (k : Nat) (x : PL) (y : QL), xs[k]? = some x → ys[k]? = some y → x.size = y.size ∧ x.front = y.front)
    (mod : Mod [] w0 w) (hA : w0.heap.size ≤ A) (hD : w0.heap.size ≤ D) (hk : k < 3) (hn : IsLog w w0.heap.size g' s' u' f') (hg : ∀ y ∈ xs, y.g ≠ g') (hu : ∀ y ∈ xs, ∀ z, u'.ownBlock = some z → y.v.ownBlock ≠ some z) (huq : ∀ y ∈ ys, ∀ z, u'.ownBlock = some z → y.u.ownBlock ≠ some z)
    (ho : OwnD w w0.heap.size y.u y.front) (hx : ∀ x ∈ xs, ∀ z, x.v.ownBlock = some z → y.u.ownBlock ≠ some z) (hxy : ∀ z, u'.ownBlock = some z → y.u.ownBlock ≠ some z) (he : s' = y.size ∧ f' = y.front) :
    LSt w0 (((w.setCell ⟨A, k, none⟩ (lptr g')).setCell ⟨D, k * 2, none⟩ (.int .i64 y.size)).setCell ⟨D, k * 2 + 1, none⟩ y.u) A D (xs.set k ⟨g', s', u', f'⟩) (ys.set k y) := by
  refine LSt.putQ y (p.put hk hn hg hu) (q.offA p rfl) (c.setP k _ huq) (mod.setCell (.inr hA) _) hA hD hk ?_ ?_ ?_
  · have mA : Mod [A] w (w.setCell ⟨A, k, none⟩ (lptr g')) := (Mod.refl [A] w).setCell (.inl (by simp)) _
    exact ho.mod mA (fun z hz => by rw [List.mem_singleton.1 hz]; exact own_ne_t ho p.am (by decide))
  · intro x hx'
    rcases mem_set_or hx' with rfl | hx'
    · exact hxy
    · exact hx x hx'
  · intro j x z h1 h2
    rcases set_get (by rw [q.len]; exact hk) h2 with ⟨hj, rfl⟩ | ⟨hj, h2⟩
    · subst hj
      rcases set_get (by rw [p.len]; exact hk) h1 with ⟨_, rfl⟩ | ⟨h3, _⟩
      · exact he
      · exact absurd rfl h3
    · rcases set_get (by rw [p.len]; exact hk) h1 with ⟨h3, _⟩ | ⟨_, h1⟩
      · exact absurd h3 hj
      · exact eq j x z h1 h2
/-- The program's k-th alone: another log of the same leaves. -/
theorem LSt.putP {w0 w : World} {A D : Nat} {xs : List PL} {ys : List QL} {k g' : Nat} {u' : Value} {px : PL} (h : LSt w0 w A D xs ys) (hk : k < 3) (hp : xs[k]? = some px) (hn : IsLog w w0.heap.size g' px.size u' px.front) (hg : ∀ y ∈ xs, y.g ≠ g') (hu : ∀ y ∈ xs, ∀ z, u'.ownBlock = some z → y.v.ownBlock ≠ some z) (huq : ∀ y ∈ ys, ∀ z, u'.ownBlock = some z → y.u.ownBlock ≠ some z) :
    LSt w0 (w.setCell ⟨A, k, none⟩ (lptr g')) A D (xs.set k ⟨g', px.size, u', px.front⟩) ys := by
  refine ⟨h.p.put hk hn hg hu, h.q.offA h.p rfl, h.x.setP k _ huq, fun j x z h1 h2 => ?_, h.mod.setCell (.inr h.hA) _, h.hA, h.hD⟩
  rcases set_get (by rw [h.p.len]; exact hk) h1 with ⟨h3, rfl⟩ | ⟨_, h1⟩
  · subst h3
    exact h.eq k px z hp h2
  · exact h.eq j x z h1 h2
/-- What is new is none of them. -/
theorem LSt.fresh {w0 w w' : World} {A D g' s' : Nat} {u' : Value} {f' : List Bs} {xs : List PL} {ys : List QL} (h : LSt w0 w A D xs ys) (hl : IsLog w' w.heap.size g' s' u' f') :
    (∀ y ∈ xs, y.g ≠ g') ∧ (∀ y ∈ xs, ∀ z, u'.ownBlock = some z → y.v.ownBlock ≠ some z) ∧ (∀ y ∈ ys, ∀ z, u'.ownBlock = some z → y.u.ownBlock ≠ some z) ∧ IsLog w' w0.heap.size g' s' u' f' := by
  refine ⟨fun y hy => ?_, fun y hy z h1 h2 => ?_, fun y hy z h1 h2 => ?_, hl.blk, Nat.le_trans h.mod.size hl.base, hl.own.mono h.mod.size, hl.a32, hl.cnt, hl.sz⟩
  · have := (h.p.each y hy).lt
    have := hl.base
    omega
  · have := (h.p.each y hy).own.lt z h2
    have := hl.own.row z h1
    omega
  · have := (h.q.each y hy).lt z h2
    have := hl.own.row z h1
    omega
end Go.Proofs.YtbbobpjcbnfpfaaDoor
