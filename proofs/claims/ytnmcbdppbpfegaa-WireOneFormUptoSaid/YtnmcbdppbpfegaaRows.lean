/-
  No cell of these rows narrows 'for every input' (looked for: loops, veiled, ifaces, maps, wideKeys, modest, calm, conditions, laid).
  DERIVED. THE GIVEN ROWS OF THIS SEAT. 5 by the template 'for every input the law returns true; each argument reads behind the call as it read before'; 0 by the template 'total and deterministic' (their statements: YtnmcbdppbpfegaaTotals.lean).
  GIVEN WITH THE SEED: the statements are not yours to turn. If you find one false, say at which input.
  Laid BY PROGRAM, IN A SANDBOX (cutbox-rows.mjs): the forced cells as the released guide's own fill.sh prints them over the translation 12e9e3356c0ee2f4… (all of the seat's roots in one cut). By AI agents, Wed Nov 11 2026. No macro, syntax, notation, axiom, sorry.
-/
import Derived.Test.YtnmcbdppbpfegaaChecked
import GoSem.Claim
import GoSem.ClaimJoined
import GoSem.ClaimMapViews
import Derived.JoinedTies
import Derived.KernelRfl
namespace Go.Proofs.Ytnmcbdppbpfegaa
/- THE CELL 'sum', in the pinned program and in every row, IS THE sha256 OF THE DUMP (.gsa) THAT YtnmcbdppbpfegaaProg.lean LOADS. Nothing in Lean hashes anything: it is a label: what it is worth is what the hold of that sum in a sandbox is worth. -/
noncomputable def Try.pinned : Pinned := { name := "ytnmcbdppbpfegaa", sum := "12e9e3356c0ee2f4ad4963f31ffbedc6b1aefb95a04197b31bad9679ce026ea7", checked := Try.checked }
namespace Rows
def none {H : Type} : Left H := { results := [], args := [] }

/-- 'causewaylaw03.WireAsksOnce': WHATEVER THE INPUT: true; the input reads as it did. -/
def wireAsksOnceSpec : ChangeSpec := { name := "wireAsksOnce", fn := fun _ => fun
  | [d1, d2, d3] => { results := [.lit (.bool true)], args := [d1, d2, d3] }
  | _ => none }
def wireAsksOnceRow : OpenClaim := { program := "ytnmcbdppbpfegaa", sum := "12e9e3356c0ee2f4ad4963f31ffbedc6b1aefb95a04197b31bad9679ce026ea7", func := "causeway/causewaylaw03.WireAsksOnce", spec := "wireAsksOnce", unfollowed := true, recurses := true, apart := false }
def WireAsksOnceSaid : Prop := wireAsksOnceRow.holds Try.pinned (OpenSpec.ofChange wireAsksOnceSpec)

/-- ITS FALSE NEIGHBOUR: 'it returns false'. Refute it at one input. -/
def wireAsksOnceWrong : ChangeSpec := { name := "wireAsksOnce", fn := fun _ => fun
  | [d1, d2, d3] => { results := [.lit (.bool false)], args := [d1, d2, d3] }
  | _ => none }
def WireAsksOnceWrongFalsely : Prop := wireAsksOnceRow.holds Try.pinned (OpenSpec.ofChange wireAsksOnceWrong)

/-- 'causewaylaw03.WireWrites': WHATEVER THE INPUT: true; the input reads as it did. -/
def wireWritesSpec : ChangeSpec := { name := "wireWrites", fn := fun _ => fun
  | [d] => { results := [.lit (.bool true)], args := [d] }
  | _ => none }
def wireWritesRow : OpenClaim := { program := "ytnmcbdppbpfegaa", sum := "12e9e3356c0ee2f4ad4963f31ffbedc6b1aefb95a04197b31bad9679ce026ea7", func := "causeway/causewaylaw03.WireWrites", spec := "wireWrites", unfollowed := true, recurses := true, apart := false }
def WireWritesSaid : Prop := wireWritesRow.holds Try.pinned (OpenSpec.ofChange wireWritesSpec)

/-- ITS FALSE NEIGHBOUR: 'it returns false'. Refute it at one input. -/
def wireWritesWrong : ChangeSpec := { name := "wireWrites", fn := fun _ => fun
  | [d] => { results := [.lit (.bool false)], args := [d] }
  | _ => none }
def WireWritesWrongFalsely : Prop := wireWritesRow.holds Try.pinned (OpenSpec.ofChange wireWritesWrong)

/-- 'causewaylaw03.WireApart': WHATEVER THE INPUT: true; the input reads as it did. -/
def wireApartSpec : ChangeSpec := { name := "wireApart", fn := fun _ => fun
  | [d1, d2] => { results := [.lit (.bool true)], args := [d1, d2] }
  | _ => none }
def wireApartRow : OpenClaim := { program := "ytnmcbdppbpfegaa", sum := "12e9e3356c0ee2f4ad4963f31ffbedc6b1aefb95a04197b31bad9679ce026ea7", func := "causeway/causewaylaw03.WireApart", spec := "wireApart", unfollowed := true, recurses := true, apart := false }
def WireApartSaid : Prop := wireApartRow.holds Try.pinned (OpenSpec.ofChange wireApartSpec)

/-- ITS FALSE NEIGHBOUR: 'it returns false'. Refute it at one input. -/
def wireApartWrong : ChangeSpec := { name := "wireApart", fn := fun _ => fun
  | [d1, d2] => { results := [.lit (.bool false)], args := [d1, d2] }
  | _ => none }
def WireApartWrongFalsely : Prop := wireApartRow.holds Try.pinned (OpenSpec.ofChange wireApartWrong)

/-- 'causewaylaw03.WireWhole': WHATEVER THE INPUT: true; the input reads as it did. -/
def wireWholeSpec : ChangeSpec := { name := "wireWhole", fn := fun _ => fun
  | [d1, d2, d3] => { results := [.lit (.bool true)], args := [d1, d2, d3] }
  | _ => none }
def wireWholeRow : OpenClaim := { program := "ytnmcbdppbpfegaa", sum := "12e9e3356c0ee2f4ad4963f31ffbedc6b1aefb95a04197b31bad9679ce026ea7", func := "causeway/causewaylaw03.WireWhole", spec := "wireWhole", unfollowed := true, recurses := true, apart := false }
def WireWholeSaid : Prop := wireWholeRow.holds Try.pinned (OpenSpec.ofChange wireWholeSpec)

/-- ITS FALSE NEIGHBOUR: 'it returns false'. Refute it at one input. -/
def wireWholeWrong : ChangeSpec := { name := "wireWhole", fn := fun _ => fun
  | [d1, d2, d3] => { results := [.lit (.bool false)], args := [d1, d2, d3] }
  | _ => none }
def WireWholeWrongFalsely : Prop := wireWholeRow.holds Try.pinned (OpenSpec.ofChange wireWholeWrong)

/-- 'causewaylaw03.WireOneForm': WHATEVER THE INPUT: true; the input reads as it did. -/
def wireOneFormSpec : ChangeSpec := { name := "wireOneForm", fn := fun _ => fun
  | [d1, d2] => { results := [.lit (.bool true)], args := [d1, d2] }
  | _ => none }
def wireOneFormRow : OpenClaim := { program := "ytnmcbdppbpfegaa", sum := "12e9e3356c0ee2f4ad4963f31ffbedc6b1aefb95a04197b31bad9679ce026ea7", func := "causeway/causewaylaw03.WireOneForm", spec := "wireOneForm", unfollowed := true, recurses := true, apart := false }
def WireOneFormSaid : Prop := wireOneFormRow.holds Try.pinned (OpenSpec.ofChange wireOneFormSpec)

/-- ITS FALSE NEIGHBOUR: 'it returns false'. Refute it at one input. -/
def wireOneFormWrong : ChangeSpec := { name := "wireOneForm", fn := fun _ => fun
  | [d1, d2] => { results := [.lit (.bool false)], args := [d1, d2] }
  | _ => none }
def WireOneFormWrongFalsely : Prop := wireOneFormRow.holds Try.pinned (OpenSpec.ofChange wireOneFormWrong)

/- THE SECOND FORM. 'bulk': how many values and letters a reading holds, each counted each time it is reached (what is shared counts as often as it is met; a slice's spare places count too). A statement '..UptoSaid' is the law's where the arguments, and the package variables that the reading takes, are together of bulk at most 1048576: NARROWER than '..Said'. Prove '..Said' where nothing that the law and all that it calls make is longer than what came in: it says more and counts as full. Else prove '..UptoSaid'. A law counts once. -/
mutual
def uptoBulk {H : Type} : DataW H → Nat
  | .lit (.string bytes) => bytes.length + 1
  | .lit _ => 1
  | .nil => 1
  | .ptr d => uptoBulk d + 1
  | .slice elems spare => uptoBulkAll elems + uptoBulkAll spare + 1
  | .agg parts => uptoBulkAll parts + 1
  | .iface _ d => uptoBulk d + 1
  | .map entries => uptoBulkEntries entries + 1
  | .held _ => 1
def uptoBulkAll {H : Type} : List (DataW H) → Nat
  | [] => 0
  | d :: r => uptoBulk d + uptoBulkAll r
def uptoBulkEntries {H : Type} : List (Lit × DataW H) → Nat
  | [] => 0
  | x :: r => uptoBulkEntry x + uptoBulkEntries r
def uptoBulkEntry {H : Type} : Lit × DataW H → Nat
  | (.string bytes, d) => bytes.length + uptoBulk d + 1
  | (_, d) => uptoBulk d + 1
 end
def uptoSmall : (H : Type) → List (DataW H) → Bool := fun _ ds => decide (uptoBulkAll ds ≤ 1048576)
def OpenSpec.upto (s : _root_.Go.ChangeSpec) : _root_.Go.OpenSpec := { _root_.Go.OpenSpec.ofChange s with cond := some uptoSmall }

/-- 'causewaylaw03.WireAsksOnce', WHERE WHAT IT READS IS OF BULK AT MOST 1048576: true; the input reads as it did. -/
def wireAsksOnceUptoRow : OpenClaim := { program := "ytnmcbdppbpfegaa", sum := "12e9e3356c0ee2f4ad4963f31ffbedc6b1aefb95a04197b31bad9679ce026ea7", func := "causeway/causewaylaw03.WireAsksOnce", spec := "wireAsksOnce", unfollowed := true, recurses := true, apart := false, narrowed := true }
def WireAsksOnceUptoSaid : Prop := wireAsksOnceUptoRow.holds Try.pinned (OpenSpec.upto wireAsksOnceSpec)

/-- 'causewaylaw03.WireWrites', WHERE WHAT IT READS IS OF BULK AT MOST 1048576: true; the input reads as it did. -/
def wireWritesUptoRow : OpenClaim := { program := "ytnmcbdppbpfegaa", sum := "12e9e3356c0ee2f4ad4963f31ffbedc6b1aefb95a04197b31bad9679ce026ea7", func := "causeway/causewaylaw03.WireWrites", spec := "wireWrites", unfollowed := true, recurses := true, apart := false, narrowed := true }
def WireWritesUptoSaid : Prop := wireWritesUptoRow.holds Try.pinned (OpenSpec.upto wireWritesSpec)

/-- 'causewaylaw03.WireApart', WHERE WHAT IT READS IS OF BULK AT MOST 1048576: true; the input reads as it did. -/
def wireApartUptoRow : OpenClaim := { program := "ytnmcbdppbpfegaa", sum := "12e9e3356c0ee2f4ad4963f31ffbedc6b1aefb95a04197b31bad9679ce026ea7", func := "causeway/causewaylaw03.WireApart", spec := "wireApart", unfollowed := true, recurses := true, apart := false, narrowed := true }
def WireApartUptoSaid : Prop := wireApartUptoRow.holds Try.pinned (OpenSpec.upto wireApartSpec)

/-- 'causewaylaw03.WireWhole', WHERE WHAT IT READS IS OF BULK AT MOST 1048576: true; the input reads as it did. -/
def wireWholeUptoRow : OpenClaim := { program := "ytnmcbdppbpfegaa", sum := "12e9e3356c0ee2f4ad4963f31ffbedc6b1aefb95a04197b31bad9679ce026ea7", func := "causeway/causewaylaw03.WireWhole", spec := "wireWhole", unfollowed := true, recurses := true, apart := false, narrowed := true }
def WireWholeUptoSaid : Prop := wireWholeUptoRow.holds Try.pinned (OpenSpec.upto wireWholeSpec)

/-- 'causewaylaw03.WireOneForm', WHERE WHAT IT READS IS OF BULK AT MOST 1048576: true; the input reads as it did. -/
def wireOneFormUptoRow : OpenClaim := { program := "ytnmcbdppbpfegaa", sum := "12e9e3356c0ee2f4ad4963f31ffbedc6b1aefb95a04197b31bad9679ce026ea7", func := "causeway/causewaylaw03.WireOneForm", spec := "wireOneForm", unfollowed := true, recurses := true, apart := false, narrowed := true }
def WireOneFormUptoSaid : Prop := wireOneFormUptoRow.holds Try.pinned (OpenSpec.upto wireOneFormSpec)

end Rows
end Go.Proofs.Ytnmcbdppbpfegaa
