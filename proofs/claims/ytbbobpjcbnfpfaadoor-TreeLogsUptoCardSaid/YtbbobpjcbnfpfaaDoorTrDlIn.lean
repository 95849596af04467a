/- Lists of digests as they come in. No condition. -/
import Derived.Test.YtbbobpjcbnfpfaaDoorCloseT
import Derived.Test.YtbbobpjcbnfpfaaDoorTrMem
import Derived.Test.YtbbobpjcbnfpfaaDoorTrOne
namespace Go.Proofs.YtbbobpjcbnfpfaaDoor
open Go.ChangeShapes Go.WideShapes Go.ChangeAt Go.RowKit
theorem cellsBy : Tryd.prog.cellsOf 22 = 1 := by kernel_rfl
theorem cellsDl : Tryd.prog.cellsOf 42 = 1 := by kernel_rfl
set_option maxRecDepth 100000 in
/-- A list of digests that came in. -/
theorem digs_in {H : Type} {enc : TypeId × Value → H} {W : World} {a0 : Option Addr} {len cap : Nat} {d : DataW H} {p : List MemPlace} (h : DataW.Trod enc Tryd.prog W 0 (fun _ => true) true 42 (.slice a0 len cap) d p) :
    ∃ xs : List Bs, xs.length = len ∧ RdD W a0 cap xs ∧ All32 xs ∧ len ≤ Rows.uptoBulk d := by
  obtain ⟨xs, h1, h2, h3, _, h5⟩ := structs_in (α := Bs) 32 dgc (fun x => x.length = 32) (fun _ => 0) Tryd.underlying42 cells32 (by decide) dgc_len (by
    intro n cs d p hl hc
    obtain ⟨l, hl2⟩ := arr_in Tryd.underlying24 cells32 hc
    exact ⟨l.1, by rw [hl2, dgc_of l.2], l.2, by omega⟩) h
  exact ⟨xs, h1, h2, h3, h5⟩
theorem split1 (cs : List Value) (k n : Nat) (h : n = k + 1) (hl : cs.length = n) : (cs.drop k).take 1 = cs.drop k := List.take_of_length_le (by simp; omega)
end Go.Proofs.YtbbobpjcbnfpfaaDoor
