/-
  No cell of these rows narrows 'for every input' (looked for: loops, veiled, ifaces, maps, wideKeys, modest, calm, conditions, laid).
  DERIVED. THE GIVEN ROWS OF THIS SEAT. 7 by the template 'for every input the law returns true; each argument reads behind the call as it read before'; 0 by the template 'total and deterministic' (their statements: YtmjdfglidfdkaaaTotals.lean).
  GIVEN WITH THE SEED: the statements are not yours to turn. If you find one false, say at which input.
  Laid BY PROGRAM, IN A SANDBOX (cutbox-rows.mjs): the forced cells as the released guide's own fill.sh prints them over the translation 2ef5beeee88fce99… (all of the seat's roots in one cut). By AI agents, Wed Nov 11 2026. No macro, syntax, notation, axiom, sorry.
-/
import Derived.Test.YtmjdfglidfdkaaaChecked
import GoSem.Claim
import GoSem.ClaimJoined
import GoSem.ClaimMapViews
import Derived.JoinedTies
import Derived.KernelRfl
namespace Go.Proofs.Ytmjdfglidfdkaaa
/- THE CELL 'sum', in the pinned program and in every row, IS THE sha256 OF THE DUMP (.gsa) THAT YtmjdfglidfdkaaaProg.lean LOADS. Nothing in Lean hashes anything: it is a label: what it is worth is what the hold of that sum in a sandbox is worth. -/
noncomputable def Try.pinned : Pinned := { name := "ytmjdfglidfdkaaa", sum := "2ef5beeee88fce9981875e19b7c0bf531b41a515d956db0f273b2b2c6dbe940b", checked := Try.checked }
namespace Rows
def none {H : Type} : Left H := { results := [], args := [] }

/-- 'causewaylaw16.LadderRefused': WHATEVER THE INPUT: true; the input reads as it did. -/
def ladderRefusedSpec : ChangeSpec := { name := "ladderRefused", fn := fun _ => fun
  | [d] => { results := [.lit (.bool true)], args := [d] }
  | _ => none }
def ladderRefusedRow : OpenClaim := { program := "ytmjdfglidfdkaaa", sum := "2ef5beeee88fce9981875e19b7c0bf531b41a515d956db0f273b2b2c6dbe940b", func := "causeway/causewaylaw16.LadderRefused", spec := "ladderRefused", unfollowed := true, recurses := true, apart := false }
def LadderRefusedSaid : Prop := ladderRefusedRow.holds Try.pinned (OpenSpec.ofChange ladderRefusedSpec)

/-- ITS FALSE NEIGHBOUR: 'it returns false'. Refute it at one input. -/
def ladderRefusedWrong : ChangeSpec := { name := "ladderRefused", fn := fun _ => fun
  | [d] => { results := [.lit (.bool false)], args := [d] }
  | _ => none }
def LadderRefusedWrongFalsely : Prop := ladderRefusedRow.holds Try.pinned (OpenSpec.ofChange ladderRefusedWrong)

/-- 'causewaylaw16.LadderWindow': WHATEVER THE INPUT: true; the input reads as it did. -/
def ladderWindowSpec : ChangeSpec := { name := "ladderWindow", fn := fun _ => fun
  | [d1, d2, d3] => { results := [.lit (.bool true)], args := [d1, d2, d3] }
  | _ => none }
def ladderWindowRow : OpenClaim := { program := "ytmjdfglidfdkaaa", sum := "2ef5beeee88fce9981875e19b7c0bf531b41a515d956db0f273b2b2c6dbe940b", func := "causeway/causewaylaw16.LadderWindow", spec := "ladderWindow", unfollowed := true, recurses := true, apart := false }
def LadderWindowSaid : Prop := ladderWindowRow.holds Try.pinned (OpenSpec.ofChange ladderWindowSpec)

/-- ITS FALSE NEIGHBOUR: 'it returns false'. Refute it at one input. -/
def ladderWindowWrong : ChangeSpec := { name := "ladderWindow", fn := fun _ => fun
  | [d1, d2, d3] => { results := [.lit (.bool false)], args := [d1, d2, d3] }
  | _ => none }
def LadderWindowWrongFalsely : Prop := ladderWindowRow.holds Try.pinned (OpenSpec.ofChange ladderWindowWrong)

/-- 'causewaylaw16.LadderApart': WHATEVER THE INPUT: true; the input reads as it did. -/
def ladderApartSpec : ChangeSpec := { name := "ladderApart", fn := fun _ => fun
  | [d1, d2] => { results := [.lit (.bool true)], args := [d1, d2] }
  | _ => none }
def ladderApartRow : OpenClaim := { program := "ytmjdfglidfdkaaa", sum := "2ef5beeee88fce9981875e19b7c0bf531b41a515d956db0f273b2b2c6dbe940b", func := "causeway/causewaylaw16.LadderApart", spec := "ladderApart", unfollowed := true, recurses := true, apart := false }
def LadderApartSaid : Prop := ladderApartRow.holds Try.pinned (OpenSpec.ofChange ladderApartSpec)

/-- ITS FALSE NEIGHBOUR: 'it returns false'. Refute it at one input. -/
def ladderApartWrong : ChangeSpec := { name := "ladderApart", fn := fun _ => fun
  | [d1, d2] => { results := [.lit (.bool false)], args := [d1, d2] }
  | _ => none }
def LadderApartWrongFalsely : Prop := ladderApartRow.holds Try.pinned (OpenSpec.ofChange ladderApartWrong)

/-- 'causewaylaw03.WireNames': WHATEVER THE INPUT: true; the input reads as it did. -/
def wireNamesSpec : ChangeSpec := { name := "wireNames", fn := fun _ => fun
  | [] => { results := [.lit (.bool true)], args := [] }
  | _ => none }
def wireNamesRow : OpenClaim := { program := "ytmjdfglidfdkaaa", sum := "2ef5beeee88fce9981875e19b7c0bf531b41a515d956db0f273b2b2c6dbe940b", func := "causeway/causewaylaw03.WireNames", spec := "wireNames", unfollowed := true, recurses := true, apart := false }
def WireNamesSaid : Prop := wireNamesRow.holds Try.pinned (OpenSpec.ofChange wireNamesSpec)

/-- ITS FALSE NEIGHBOUR: 'it returns false'. Refute it at one input. -/
def wireNamesWrong : ChangeSpec := { name := "wireNames", fn := fun _ => fun
  | [] => { results := [.lit (.bool false)], args := [] }
  | _ => none }
def WireNamesWrongFalsely : Prop := wireNamesRow.holds Try.pinned (OpenSpec.ofChange wireNamesWrong)

/-- 'causewaylaw16.LadderOnce': WHATEVER THE INPUT: true; the input reads as it did. -/
def ladderOnceSpec : ChangeSpec := { name := "ladderOnce", fn := fun _ => fun
  | [d] => { results := [.lit (.bool true)], args := [d] }
  | _ => none }
def ladderOnceRow : OpenClaim := { program := "ytmjdfglidfdkaaa", sum := "2ef5beeee88fce9981875e19b7c0bf531b41a515d956db0f273b2b2c6dbe940b", func := "causeway/causewaylaw16.LadderOnce", spec := "ladderOnce", unfollowed := true, recurses := true, apart := false }
def LadderOnceSaid : Prop := ladderOnceRow.holds Try.pinned (OpenSpec.ofChange ladderOnceSpec)

/-- ITS FALSE NEIGHBOUR: 'it returns false'. Refute it at one input. -/
def ladderOnceWrong : ChangeSpec := { name := "ladderOnce", fn := fun _ => fun
  | [d] => { results := [.lit (.bool false)], args := [d] }
  | _ => none }
def LadderOnceWrongFalsely : Prop := ladderOnceRow.holds Try.pinned (OpenSpec.ofChange ladderOnceWrong)

/-- 'causewaylaw03.WireLaysOnce': WHATEVER THE INPUT: true; the input reads as it did. -/
def wireLaysOnceSpec : ChangeSpec := { name := "wireLaysOnce", fn := fun _ => fun
  | [d1, d2] => { results := [.lit (.bool true)], args := [d1, d2] }
  | _ => none }
def wireLaysOnceRow : OpenClaim := { program := "ytmjdfglidfdkaaa", sum := "2ef5beeee88fce9981875e19b7c0bf531b41a515d956db0f273b2b2c6dbe940b", func := "causeway/causewaylaw03.WireLaysOnce", spec := "wireLaysOnce", unfollowed := true, recurses := true, apart := false }
def WireLaysOnceSaid : Prop := wireLaysOnceRow.holds Try.pinned (OpenSpec.ofChange wireLaysOnceSpec)

/-- ITS FALSE NEIGHBOUR: 'it returns false'. Refute it at one input. -/
def wireLaysOnceWrong : ChangeSpec := { name := "wireLaysOnce", fn := fun _ => fun
  | [d1, d2] => { results := [.lit (.bool false)], args := [d1, d2] }
  | _ => none }
def WireLaysOnceWrongFalsely : Prop := wireLaysOnceRow.holds Try.pinned (OpenSpec.ofChange wireLaysOnceWrong)

/-- 'causewaylaw16.LadderPlays': WHATEVER THE INPUT: true; the input reads as it did. -/
def ladderPlaysSpec : ChangeSpec := { name := "ladderPlays", fn := fun _ => fun
  | [d] => { results := [.lit (.bool true)], args := [d] }
  | _ => none }
def ladderPlaysRow : OpenClaim := { program := "ytmjdfglidfdkaaa", sum := "2ef5beeee88fce9981875e19b7c0bf531b41a515d956db0f273b2b2c6dbe940b", func := "causeway/causewaylaw16.LadderPlays", spec := "ladderPlays", unfollowed := true, recurses := true, apart := false }
def LadderPlaysSaid : Prop := ladderPlaysRow.holds Try.pinned (OpenSpec.ofChange ladderPlaysSpec)

/-- ITS FALSE NEIGHBOUR: 'it returns false'. Refute it at one input. -/
def ladderPlaysWrong : ChangeSpec := { name := "ladderPlays", fn := fun _ => fun
  | [d] => { results := [.lit (.bool false)], args := [d] }
  | _ => none }
def LadderPlaysWrongFalsely : Prop := ladderPlaysRow.holds Try.pinned (OpenSpec.ofChange ladderPlaysWrong)

/- THE SECOND FORM. 'bulk': how many values and letters a reading holds, each counted each time it is reached (what is shared counts as often as it is met; a slice's spare places count too). A statement '..UptoSaid' is the law's where the arguments, and the package variables that the reading takes, are together of bulk at most 1048576: NARROWER than '..Said'. Prove '..Said' where nothing that the law and all that it calls make is longer than what came in: it says more and counts as full. Else prove '..UptoSaid'. A law counts once. -/
mutual
def uptoBulk {H : Type} : DataW H → Nat
  | .lit (.string bytes) => bytes.length + 1
  | .lit _ => 1
  | .nil => 1
  | .ptr d => uptoBulk d + 1
  | .slice elems spare => uptoBulkAll elems + uptoBulkAll spare + 1
  | .agg parts => uptoBulkAll parts + 1
  | .iface _ d => uptoBulk d + 1
  | .map entries => uptoBulkEntries entries + 1
  | .held _ => 1
def uptoBulkAll {H : Type} : List (DataW H) → Nat
  | [] => 0
  | d :: r => uptoBulk d + uptoBulkAll r
def uptoBulkEntries {H : Type} : List (Lit × DataW H) → Nat
  | [] => 0
  | x :: r => uptoBulkEntry x + uptoBulkEntries r
def uptoBulkEntry {H : Type} : Lit × DataW H → Nat
  | (.string bytes, d) => bytes.length + uptoBulk d + 1
  | (_, d) => uptoBulk d + 1
 end
def uptoSmall : (H : Type) → List (DataW H) → Bool := fun _ ds => decide (uptoBulkAll ds ≤ 1048576)
def OpenSpec.upto (s : _root_.Go.ChangeSpec) : _root_.Go.OpenSpec := { _root_.Go.OpenSpec.ofChange s with cond := some uptoSmall }

/-- 'causewaylaw16.LadderRefused', WHERE WHAT IT READS IS OF BULK AT MOST 1048576: true; the input reads as it did. -/
def ladderRefusedUptoRow : OpenClaim := { program := "ytmjdfglidfdkaaa", sum := "2ef5beeee88fce9981875e19b7c0bf531b41a515d956db0f273b2b2c6dbe940b", func := "causeway/causewaylaw16.LadderRefused", spec := "ladderRefused", unfollowed := true, recurses := true, apart := false, narrowed := true }
def LadderRefusedUptoSaid : Prop := ladderRefusedUptoRow.holds Try.pinned (OpenSpec.upto ladderRefusedSpec)

/-- 'causewaylaw16.LadderWindow', WHERE WHAT IT READS IS OF BULK AT MOST 1048576: true; the input reads as it did. -/
def ladderWindowUptoRow : OpenClaim := { program := "ytmjdfglidfdkaaa", sum := "2ef5beeee88fce9981875e19b7c0bf531b41a515d956db0f273b2b2c6dbe940b", func := "causeway/causewaylaw16.LadderWindow", spec := "ladderWindow", unfollowed := true, recurses := true, apart := false, narrowed := true }
def LadderWindowUptoSaid : Prop := ladderWindowUptoRow.holds Try.pinned (OpenSpec.upto ladderWindowSpec)

/-- 'causewaylaw16.LadderApart', WHERE WHAT IT READS IS OF BULK AT MOST 1048576: true; the input reads as it did. -/
def ladderApartUptoRow : OpenClaim := { program := "ytmjdfglidfdkaaa", sum := "2ef5beeee88fce9981875e19b7c0bf531b41a515d956db0f273b2b2c6dbe940b", func := "causeway/causewaylaw16.LadderApart", spec := "ladderApart", unfollowed := true, recurses := true, apart := false, narrowed := true }
def LadderApartUptoSaid : Prop := ladderApartUptoRow.holds Try.pinned (OpenSpec.upto ladderApartSpec)

/-- 'causewaylaw03.WireNames', WHERE WHAT IT READS IS OF BULK AT MOST 1048576: true; the input reads as it did. -/
def wireNamesUptoRow : OpenClaim := { program := "ytmjdfglidfdkaaa", sum := "2ef5beeee88fce9981875e19b7c0bf531b41a515d956db0f273b2b2c6dbe940b", func := "causeway/causewaylaw03.WireNames", spec := "wireNames", unfollowed := true, recurses := true, apart := false, narrowed := true }
def WireNamesUptoSaid : Prop := wireNamesUptoRow.holds Try.pinned (OpenSpec.upto wireNamesSpec)

/-- 'causewaylaw16.LadderOnce', WHERE WHAT IT READS IS OF BULK AT MOST 1048576: true; the input reads as it did. -/
def ladderOnceUptoRow : OpenClaim := { program := "ytmjdfglidfdkaaa", sum := "2ef5beeee88fce9981875e19b7c0bf531b41a515d956db0f273b2b2c6dbe940b", func := "causeway/causewaylaw16.LadderOnce", spec := "ladderOnce", unfollowed := true, recurses := true, apart := false, narrowed := true }
def LadderOnceUptoSaid : Prop := ladderOnceUptoRow.holds Try.pinned (OpenSpec.upto ladderOnceSpec)

/-- 'causewaylaw03.WireLaysOnce', WHERE WHAT IT READS IS OF BULK AT MOST 1048576: true; the input reads as it did. -/
def wireLaysOnceUptoRow : OpenClaim := { program := "ytmjdfglidfdkaaa", sum := "2ef5beeee88fce9981875e19b7c0bf531b41a515d956db0f273b2b2c6dbe940b", func := "causeway/causewaylaw03.WireLaysOnce", spec := "wireLaysOnce", unfollowed := true, recurses := true, apart := false, narrowed := true }
def WireLaysOnceUptoSaid : Prop := wireLaysOnceUptoRow.holds Try.pinned (OpenSpec.upto wireLaysOnceSpec)

/-- 'causewaylaw16.LadderPlays', WHERE WHAT IT READS IS OF BULK AT MOST 1048576: true; the input reads as it did. -/
def ladderPlaysUptoRow : OpenClaim := { program := "ytmjdfglidfdkaaa", sum := "2ef5beeee88fce9981875e19b7c0bf531b41a515d956db0f273b2b2c6dbe940b", func := "causeway/causewaylaw16.LadderPlays", spec := "ladderPlays", unfollowed := true, recurses := true, apart := false, narrowed := true }
def LadderPlaysUptoSaid : Prop := ladderPlaysUptoRow.holds Try.pinned (OpenSpec.upto ladderPlaysSpec)

end Rows
end Go.Proofs.Ytmjdfglidfdkaaa
