/- The reference's Sum over 'hf'. Condition: the reference's two tables lie in their variables. -/
import Derived.Test.YtbbobpjcbnfpfaaDoorRfTree
import Derived.Test.YtbbobpjcbnfpfaaDoorTrFns
namespace Go.Proofs.YtbbobpjcbnfpfaaDoor
open Go.RowKit
/-- The reference's two tables lie in their variables. -/
structure Rf (w : World) : Prop where
  tr : TabR w
  tb : TabB w
theorem Rf.mod0 {a w : World} (h : Rf a) (m : Mod [] a w) : Rf w := ⟨TabR.mod m h.tr (by simp), TabB.mod m h.tb (by simp)⟩
theorem rsum {hf : Bs → Bs} {w : World} (h : Hs hf w) (r : Rf w) (q : Option Addr) (c n : Nat) (d : Bs) (hn : n = d.length) (hr : Rd V8 w q c d) (ht : d.length ≤ 70368744177664) :
    Calls Tryd.prog 63 #[.slice q n c] w fun e w' => e = .returned (dv (hf d)) ∧ Mod [] w w' := by
  subst hn
  rw [h.eq]
  exact ref_sum q c d w hr ht r.tr r.tb
end Go.Proofs.YtbbobpjcbnfpfaaDoor
