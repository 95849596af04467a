/- Digests in variables of the call's own; Parts over two and three lists. Condition: the three tables lie in their variables. -/
import Derived.Test.YtbbobpjcbnfpfaaDoorTrAwake
import Derived.Deep.DeepCutAuto
namespace Go.Proofs.YtbbobpjcbnfpfaaDoor
open Go.RowKit
/-- Digests that lie in blocks of their own. -/
def DgAt (w : World) (L : List (Nat × Bs)) : Prop := ∀ x ∈ L, x.2.length = 32 ∧ w.heap[x.1]? = some (.cells (x.2.map V8).toArray 24)
namespace DgAt
variable {a w : World} {L : List (Nat × Bs)}
theorem nil (w : World) : DgAt w [] := fun _ h => by cases h
theorem mod0 (h : DgAt a L) (m : Mod [] a w) : DgAt w L := fun x hx => ⟨(h x hx).1, m.get0 (h x hx).2⟩
theorem mod {S : List Nat} (h : DgAt a L) (m : Mod S a w) (hs : ∀ x ∈ L, x.1 ∉ S) : DgAt w L := fun x hx => ⟨(h x hx).1, m.get (h x hx).2 (hs x hx)⟩
/-- One more, in the block that has just been made. -/
theorem new (h : DgAt a L) (m : Mod [] a w) (d : Bs) (hd : d.length = 32) (b : Nat) (hb : b = w.heap.size) : DgAt (w.alloc (.cells (d.map V8).toArray 24)) ((b, d) :: L) := by
  intro x hx
  rcases List.mem_cons.1 hx with rfl | hx
  · exact ⟨hd, hp_new _ _ _ hb⟩
  · exact (h.mod0 (m.alloc _)) x hx
/-- One more, in a block that was made on the way. -/
theorem set (h : DgAt a L) (m : Mod [] a w) (d : Bs) (hd : d.length = 32) (b : Nat) (hb : a.heap.size ≤ b) (Z : Array Value) (hz : w.heap[b]? = some (.cells Z 24)) : DgAt (w.setRow b (d.map V8).toArray) ((b, d) :: L) := by
  intro x hx
  rcases List.mem_cons.1 hx with rfl | hx
  · exact ⟨hd, hp_setRow hz⟩
  · refine ⟨(h x hx).1, hp_setRow_ne (m.get0 (h x hx).2) ?_⟩
    have := lt_of_block (h x hx).2
    omega
theorem at_ (h : DgAt w L) (i : Nat) (b : Nat) (d : Bs) (hi : L[i]? = some (b, d)) : d.length = 32 ∧ w.heap[b]? = some (.cells (d.map V8).toArray 24) := h (b, d) (List.mem_of_getElem? hi)
theorem load (h : DgAt w L) (i : Nat) (b : Nat) (d : Bs) (hi : L[i]? = some (b, d)) : (LoadO 24 (.pointer (some ⟨b, 0, none⟩))).run Tryd.prog w = .ok (dv d) w := loadDv d (h.at_ i b d hi).1 (h.at_ i b d hi).2
end DgAt
/-- Parts over two lists of which the first is one byte. -/
theorem parts2 {hf : Bs → Bs} (U : World) (n : Nat) (hn : n = U.heap.size) (H : Hs hf U) (p : Option Addr) (c : Nat) (d : Bs) (hr : Rd V8 U p c d) (hd : d.length ≤ 4398046511104) :
    Calls Tryd.prog 39 #[.slice (some ⟨n + 1, 0, none⟩) 2 2] ((U.alloc (.cells #[.int .u8 0] 5)).alloc (.cells #[.slice (some ⟨n, 0, none⟩) 1 1, .slice p d.length c] 22)) fun e w' => e = .returned (dv (leafH hf d)) ∧ Mod [] U w' := by
  have M := ((Mod.refl [] U).alloc (.cells #[.int .u8 0] 5)).alloc (.cells #[.slice (some ⟨n, 0, none⟩) 1 1, .slice p d.length c] 22)
  have hp := Hs.parts (H.mod0 M) (some ⟨n + 1, 0, none⟩) 2 2 [⟨some ⟨n, 0, none⟩, 1, [0]⟩, ⟨p, c, d⟩] rfl (rd_sl (t := 22) (fr := (0, 0)) (hp_new _ _ _ (by simp [hn])) (by simp)) (by
    intro x hx
    simp only [List.mem_cons, List.not_mem_nil, or_false] at hx
    rcases hx with rfl | rfl
    · exact rd_whole (x := [0]) (hp_old (hp_new _ _ _ hn)) (by simp)
    · exact hr.mod0 M) (by simp) (by simp [total]; omega)
  have hj : joined [⟨some ⟨n, 0, none⟩, 1, [0]⟩, ⟨p, c, d⟩] = 0 :: d := by simp [joined]
  rw [hj] at hp
  exact hp.mono fun _ _ ⟨h1, h2⟩ => ⟨h1, M.trans0 h2⟩
/-- Parts over three lists: one byte, two digests. -/
theorem parts3 {hf : Bs → Bs} (W : World) (H : Hs hf W) (b0 b1 b2 bl : Nat) (l r : Bs) (hl : l.length = 32) (hr : r.length = 32) (h0 : W.heap[b1]? = some (.cells (l.map V8).toArray 24)) (h1 : W.heap[b2]? = some (.cells (r.map V8).toArray 24))
    (h3 : W.heap[b0]? = some (.cells ([1].map V8).toArray 5)) (h4 : W.heap[bl]? = some (.cells #[.slice (some ⟨b0, 0, none⟩) 1 1, .slice (some ⟨b1, 0, none⟩) 32 32, .slice (some ⟨b2, 0, none⟩) 32 32] 22)) :
    Calls Tryd.prog 39 #[.slice (some ⟨bl, 0, none⟩) 3 3] W fun e w' => e = .returned (dv (nodeH hf l r)) ∧ Mod [] W w' := by
  have hj : joined [⟨some ⟨b0, 0, none⟩, 1, [1]⟩, ⟨some ⟨b1, 0, none⟩, 32, l⟩, ⟨some ⟨b2, 0, none⟩, 32, r⟩] = 1 :: (l ++ r) := by simp [joined]
  have hp := Hs.parts H (some ⟨bl, 0, none⟩) 3 3 [⟨some ⟨b0, 0, none⟩, 1, [1]⟩, ⟨some ⟨b1, 0, none⟩, 32, l⟩, ⟨some ⟨b2, 0, none⟩, 32, r⟩] rfl (rd_sl (t := 22) (fr := (0, 0)) (h4.trans (by simp [SlR.v, hl, hr])) (by simp)) (by
    intro x hx
    simp only [List.mem_cons, List.not_mem_nil, or_false] at hx
    rcases hx with rfl | rfl | rfl
    · exact rd_whole h3 (by simp)
    · exact rd_whole h0 (by simp; omega)
    · exact rd_whole h1 (by simp; omega)) (by simp) (by simp [total]; omega)
  rw [hj] at hp
  exact hp
theorem parts3A {hf : Bs → Bs} (U : World) (H : Hs hf U) (b1 b2 : Nat) (l r : Bs) (hl : l.length = 32) (hr : r.length = 32) (h0 : U.heap[b1]? = some (.cells (l.map V8).toArray 24)) (h1 : U.heap[b2]? = some (.cells (r.map V8).toArray 24)) :
    Calls Tryd.prog 39 #[.slice (some ⟨U.heap.size + 1, 0, none⟩) 3 3] (((U.alloc (.cells #[.int .u8 1] 5)).alloc (.cells #[.slice (some ⟨U.heap.size, 0, none⟩) 1 1, .slice (some ⟨b1, 0, none⟩) 32 32, .slice (some ⟨b2, 0, none⟩) 32 32] 22)).drew) fun e w' => e = .returned (dv (nodeH hf l r)) ∧ Mod [] U w' := by
  have M : Mod [] U (((U.alloc (.cells #[.int .u8 1] 5)).alloc (.cells #[.slice (some ⟨U.heap.size, 0, none⟩) 1 1, .slice (some ⟨b1, 0, none⟩) 32 32, .slice (some ⟨b2, 0, none⟩) 32 32] 22)).drew) := (((Mod.refl [] U).alloc _).alloc _).drew
  exact (parts3 (((U.alloc (.cells #[.int .u8 1] 5)).alloc (.cells #[.slice (some ⟨U.heap.size, 0, none⟩) 1 1, .slice (some ⟨b1, 0, none⟩) 32 32, .slice (some ⟨b2, 0, none⟩) 32 32] 22)).drew) (H.mod0 M) (U.heap.size) b1 b2 _ l r hl hr (M.get0 h0) (M.get0 h1) (hp_drew (hp_old (hp_new _ _ _ rfl))) (hp_drew (hp_new _ _ _ (by simp)))).mono fun _ _ ⟨h1, h2⟩ => ⟨h1, M.trans0 h2⟩
theorem parts3B {hf : Bs → Bs} (U : World) (H : Hs hf U) (b1 b2 : Nat) (l r : Bs) (hl : l.length = 32) (hr : r.length = 32) (h0 : U.heap[b1]? = some (.cells (l.map V8).toArray 24)) (h1 : U.heap[b2]? = some (.cells (r.map V8).toArray 24)) (Z : Array Value) :
    Calls Tryd.prog 39 #[.slice (some ⟨U.heap.size + 1, 0, none⟩) 3 3] ((((U.alloc (.cells #[.int .u8 1] 5)).alloc (.cells #[.slice (some ⟨U.heap.size, 0, none⟩) 1 1, .slice (some ⟨b1, 0, none⟩) 32 32, .slice (some ⟨b2, 0, none⟩) 32 32] 22)).alloc (.cells Z 24)).drew) fun e w' => e = .returned (dv (nodeH hf l r)) ∧ Mod [] U w' ∧ w'.heap[U.heap.size + 1 + 1]? = some (.cells Z 24) := by
  have M : Mod [] U ((((U.alloc (.cells #[.int .u8 1] 5)).alloc (.cells #[.slice (some ⟨U.heap.size, 0, none⟩) 1 1, .slice (some ⟨b1, 0, none⟩) 32 32, .slice (some ⟨b2, 0, none⟩) 32 32] 22)).alloc (.cells Z 24)).drew) := ((((Mod.refl [] U).alloc _).alloc _).alloc _).drew
  exact (parts3 ((((U.alloc (.cells #[.int .u8 1] 5)).alloc (.cells #[.slice (some ⟨U.heap.size, 0, none⟩) 1 1, .slice (some ⟨b1, 0, none⟩) 32 32, .slice (some ⟨b2, 0, none⟩) 32 32] 22)).alloc (.cells Z 24)).drew) (H.mod0 M) (U.heap.size) b1 b2 _ l r hl hr (M.get0 h0) (M.get0 h1) (hp_drew (hp_old (hp_old (hp_new _ _ _ rfl)))) (hp_drew (hp_old (hp_new _ _ _ (by simp))))).mono fun _ _ ⟨h1, h2⟩ => ⟨h1, M.trans0 h2, h2.get0 (hp_drew (hp_new _ _ _ (by simp)))⟩
theorem parts3C {hf : Bs → Bs} (U : World) (H : Hs hf U) (b1 b2 : Nat) (l r : Bs) (hl : l.length = 32) (hr : r.length = 32) (h0 : U.heap[b1]? = some (.cells (l.map V8).toArray 24)) (h1 : U.heap[b2]? = some (.cells (r.map V8).toArray 24)) (Z : Array Value) :
    Calls Tryd.prog 39 #[.slice (some ⟨U.heap.size + 1 + 1, 0, none⟩) 3 3] ((((U.alloc (.cells #[.int .u8 1] 5)).alloc (.cells Z 24)).alloc (.cells #[.slice (some ⟨U.heap.size, 0, none⟩) 1 1, .slice (some ⟨b1, 0, none⟩) 32 32, .slice (some ⟨b2, 0, none⟩) 32 32] 22)).drew) fun e w' => e = .returned (dv (nodeH hf l r)) ∧ Mod [] U w' ∧ w'.heap[U.heap.size + 1]? = some (.cells Z 24) := by
  have M : Mod [] U ((((U.alloc (.cells #[.int .u8 1] 5)).alloc (.cells Z 24)).alloc (.cells #[.slice (some ⟨U.heap.size, 0, none⟩) 1 1, .slice (some ⟨b1, 0, none⟩) 32 32, .slice (some ⟨b2, 0, none⟩) 32 32] 22)).drew) := ((((Mod.refl [] U).alloc _).alloc _).alloc _).drew
  exact (parts3 ((((U.alloc (.cells #[.int .u8 1] 5)).alloc (.cells Z 24)).alloc (.cells #[.slice (some ⟨U.heap.size, 0, none⟩) 1 1, .slice (some ⟨b1, 0, none⟩) 32 32, .slice (some ⟨b2, 0, none⟩) 32 32] 22)).drew) (H.mod0 M) (U.heap.size) b1 b2 _ l r hl hr (M.get0 h0) (M.get0 h1) (hp_drew (hp_old (hp_old (hp_new _ _ _ rfl)))) (hp_drew (hp_new _ _ _ (by simp)))).mono fun _ _ ⟨h1, h2⟩ => ⟨h1, M.trans0 h2, h2.get0 (hp_drew (hp_old (hp_new _ _ _ (by simp))))⟩
theorem parts3D {hf : Bs → Bs} (U : World) (H : Hs hf U) (b1 b2 : Nat) (l r : Bs) (hl : l.length = 32) (hr : r.length = 32) (h0 : U.heap[b1]? = some (.cells (l.map V8).toArray 24)) (h1 : U.heap[b2]? = some (.cells (r.map V8).toArray 24)) (Z : Array Value) :
    Calls Tryd.prog 39 #[.slice (some ⟨U.heap.size + 1 + 1, 0, none⟩) 3 3] ((((U.alloc (.cells Z 24)).alloc (.cells #[.int .u8 1] 5)).alloc (.cells #[.slice (some ⟨U.heap.size + 1, 0, none⟩) 1 1, .slice (some ⟨b1, 0, none⟩) 32 32, .slice (some ⟨b2, 0, none⟩) 32 32] 22)).drew) fun e w' => e = .returned (dv (nodeH hf l r)) ∧ Mod [] U w' ∧ w'.heap[U.heap.size]? = some (.cells Z 24) := by
  have M : Mod [] U ((((U.alloc (.cells Z 24)).alloc (.cells #[.int .u8 1] 5)).alloc (.cells #[.slice (some ⟨U.heap.size + 1, 0, none⟩) 1 1, .slice (some ⟨b1, 0, none⟩) 32 32, .slice (some ⟨b2, 0, none⟩) 32 32] 22)).drew) := ((((Mod.refl [] U).alloc _).alloc _).alloc _).drew
  exact (parts3 ((((U.alloc (.cells Z 24)).alloc (.cells #[.int .u8 1] 5)).alloc (.cells #[.slice (some ⟨U.heap.size + 1, 0, none⟩) 1 1, .slice (some ⟨b1, 0, none⟩) 32 32, .slice (some ⟨b2, 0, none⟩) 32 32] 22)).drew) (H.mod0 M) (U.heap.size + 1) b1 b2 _ l r hl hr (M.get0 h0) (M.get0 h1) (hp_drew (hp_old (hp_new _ _ _ (by simp)))) (hp_drew (hp_new _ _ _ (by simp)))).mono fun _ _ ⟨h1, h2⟩ => ⟨h1, M.trans0 h2, h2.get0 (hp_drew (hp_old (hp_old (hp_new _ _ _ rfl))))⟩
/-- A few leaves in a list that has just been made. -/
theorem lv_few {w : World} {b c : Nat} {xs : List SlR} {t : TypeId} {fr : Nat × Nat} (h : w.heap[b]? = some (.cells (xs.map SlR.v).toArray t fr)) (hc : xs.length ≤ c) (hx : ∀ x ∈ xs, Rd V8 w x.p x.cap x.d ∧ x.d.length ≤ 4398046511104) (hl : xs.length ≤ 4294967296) : Lv w (some ⟨b, 0, none⟩) c xs :=
  ⟨rd_sl h hc, fun x h => (hx x h).1, fun x h => (hx x h).2, hl⟩
end Go.Proofs.YtbbobpjcbnfpfaaDoor
