/-
  NARROWER THAN 'FOR EVERY INPUT', by the rows' own cells (each row's printed sentence says how): DigestSums: laid · DigestParts: laid · DigestApart: laid · DigestHashers: laid · DigestBits: laid · DigestBehind: laid · DigestCuts: laid · DigestHexes: laid.
  DERIVED. THE GIVEN ROWS OF THIS SEAT. 8 by the template 'for every input the law returns true; each argument reads behind the call as it read before'; 0 by the template 'total and deterministic' (their statements: YtmjdfglidfdkaaaDoorTotals.lean).
  GIVEN WITH THE SEED: the statements are not yours to turn. If you find one false, say at which input.
  Laid BY PROGRAM, IN A SANDBOX (cutbox-rows.mjs): the forced cells as the released guide's own fill.sh prints them over the translation 0c1b3cb05c3f9276… (all of the seat's roots in one cut). By AI agents, Wed Nov 11 2026. No macro, syntax, notation, axiom, sorry.
-/
import Derived.Test.YtmjdfglidfdkaaaDoorChecked
import GoSem.Claim
import GoSem.ClaimJoined
import GoSem.ClaimMapViews
import Derived.JoinedTies
import Derived.KernelRfl
namespace Go.Proofs.YtmjdfglidfdkaaaDoor
/- THE CELL 'sum', in the pinned program and in every row, IS THE sha256 OF THE DUMP (.gsa) THAT YtmjdfglidfdkaaaDoorProg.lean LOADS. Nothing in Lean hashes anything: it is a label: what it is worth is what the hold of that sum in a sandbox is worth. -/
noncomputable def Tryd.pinned : Pinned := { name := "ytmjdfglidfdkaaadoor", sum := "0c1b3cb05c3f9276f2657b9e79a1188c70add1dd9eea5ae819ecdc60b619c930", checked := Tryd.checked }
namespace Rows
def none {H : Type} : Left H := { results := [], args := [] }

/- WHAT THE LISTED PACKAGE-LEVEL VARIABLES READ AS WHEN THE CALL BEGINS. Each datum BY PROGRAM (the guide's laid-datum.mjs) off the statement by which the dump's own 'gosem.cut.vars' lays the variable. In a bare row this is a premise. The card (YtmjdfglidfdkaaaDoorCards.lean) ties it to the program's text. -/
def laid_causeway_causewayref01_constants {H : Type} : DataW H := .agg [.lit (.int .u32 1116352408), .lit (.int .u32 1899447441), .lit (.int .u32 3049323471), .lit (.int .u32 3921009573), .lit (.int .u32 961987163), .lit (.int .u32 1508970993), .lit (.int .u32 2453635748), .lit (.int .u32 2870763221), .lit (.int .u32 3624381080), .lit (.int .u32 310598401), .lit (.int .u32 607225278), .lit (.int .u32 1426881987), .lit (.int .u32 1925078388), .lit (.int .u32 2162078206), .lit (.int .u32 2614888103), .lit (.int .u32 3248222580), .lit (.int .u32 3835390401), .lit (.int .u32 4022224774), .lit (.int .u32 264347078), .lit (.int .u32 604807628), .lit (.int .u32 770255983), .lit (.int .u32 1249150122), .lit (.int .u32 1555081692), .lit (.int .u32 1996064986), .lit (.int .u32 2554220882), .lit (.int .u32 2821834349), .lit (.int .u32 2952996808), .lit (.int .u32 3210313671), .lit (.int .u32 3336571891), .lit (.int .u32 3584528711), .lit (.int .u32 113926993), .lit (.int .u32 338241895), .lit (.int .u32 666307205), .lit (.int .u32 773529912), .lit (.int .u32 1294757372), .lit (.int .u32 1396182291), .lit (.int .u32 1695183700), .lit (.int .u32 1986661051), .lit (.int .u32 2177026350), .lit (.int .u32 2456956037), .lit (.int .u32 2730485921), .lit (.int .u32 2820302411), .lit (.int .u32 3259730800), .lit (.int .u32 3345764771), .lit (.int .u32 3516065817), .lit (.int .u32 3600352804), .lit (.int .u32 4094571909), .lit (.int .u32 275423344), .lit (.int .u32 430227734), .lit (.int .u32 506948616), .lit (.int .u32 659060556), .lit (.int .u32 883997877), .lit (.int .u32 958139571), .lit (.int .u32 1322822218), .lit (.int .u32 1537002063), .lit (.int .u32 1747873779), .lit (.int .u32 1955562222), .lit (.int .u32 2024104815), .lit (.int .u32 2227730452), .lit (.int .u32 2361852424), .lit (.int .u32 2428436474), .lit (.int .u32 2756734187), .lit (.int .u32 3204031479), .lit (.int .u32 3329325298)]
def laid_causeway_causewayref01_beginning {H : Type} : DataW H := .agg [.lit (.int .u32 1779033703), .lit (.int .u32 3144134277), .lit (.int .u32 1013904242), .lit (.int .u32 2773480762), .lit (.int .u32 1359893119), .lit (.int .u32 2600822924), .lit (.int .u32 528734635), .lit (.int .u32 1541459225)]
def laid_causeway_digest_steps {H : Type} : DataW H := .agg [.lit (.int .u32 1116352408), .lit (.int .u32 1899447441), .lit (.int .u32 3049323471), .lit (.int .u32 3921009573), .lit (.int .u32 961987163), .lit (.int .u32 1508970993), .lit (.int .u32 2453635748), .lit (.int .u32 2870763221), .lit (.int .u32 3624381080), .lit (.int .u32 310598401), .lit (.int .u32 607225278), .lit (.int .u32 1426881987), .lit (.int .u32 1925078388), .lit (.int .u32 2162078206), .lit (.int .u32 2614888103), .lit (.int .u32 3248222580), .lit (.int .u32 3835390401), .lit (.int .u32 4022224774), .lit (.int .u32 264347078), .lit (.int .u32 604807628), .lit (.int .u32 770255983), .lit (.int .u32 1249150122), .lit (.int .u32 1555081692), .lit (.int .u32 1996064986), .lit (.int .u32 2554220882), .lit (.int .u32 2821834349), .lit (.int .u32 2952996808), .lit (.int .u32 3210313671), .lit (.int .u32 3336571891), .lit (.int .u32 3584528711), .lit (.int .u32 113926993), .lit (.int .u32 338241895), .lit (.int .u32 666307205), .lit (.int .u32 773529912), .lit (.int .u32 1294757372), .lit (.int .u32 1396182291), .lit (.int .u32 1695183700), .lit (.int .u32 1986661051), .lit (.int .u32 2177026350), .lit (.int .u32 2456956037), .lit (.int .u32 2730485921), .lit (.int .u32 2820302411), .lit (.int .u32 3259730800), .lit (.int .u32 3345764771), .lit (.int .u32 3516065817), .lit (.int .u32 3600352804), .lit (.int .u32 4094571909), .lit (.int .u32 275423344), .lit (.int .u32 430227734), .lit (.int .u32 506948616), .lit (.int .u32 659060556), .lit (.int .u32 883997877), .lit (.int .u32 958139571), .lit (.int .u32 1322822218), .lit (.int .u32 1537002063), .lit (.int .u32 1747873779), .lit (.int .u32 1955562222), .lit (.int .u32 2024104815), .lit (.int .u32 2227730452), .lit (.int .u32 2361852424), .lit (.int .u32 2428436474), .lit (.int .u32 2756734187), .lit (.int .u32 3204031479), .lit (.int .u32 3329325298)]

/-- 'causewaylaw01.DigestSums': WHATEVER THE INPUT: true; the input reads as it did. -/
def digestSumsSpec : ChangeSpec := { name := "digestSums", fn := fun _ => fun
  | [d] => { results := [.lit (.bool true)], args := [d] }
  | _ => none }
def digestSumsRow : OpenClaim := { program := "ytmjdfglidfdkaaadoor", sum := "0c1b3cb05c3f9276f2657b9e79a1188c70add1dd9eea5ae819ecdc60b619c930", func := "causeway/causewaylaw01.DigestSums", spec := "digestSums", inPlace := ["internal/abi.NoEscape"], named := ["causeway/digest.steps", "causeway/causewayref01.beginning", "causeway/causewayref01.constants"], apart := false, laid := [("causeway/causewayref01.constants", laid_causeway_causewayref01_constants), ("causeway/causewayref01.beginning", laid_causeway_causewayref01_beginning), ("causeway/digest.steps", laid_causeway_digest_steps)] }
def DigestSumsSaid : Prop := digestSumsRow.holds Tryd.pinned (OpenSpec.ofChange digestSumsSpec)

/-- ITS FALSE NEIGHBOUR: 'it returns false'. Refute it at one input. -/
def digestSumsWrong : ChangeSpec := { name := "digestSums", fn := fun _ => fun
  | [d] => { results := [.lit (.bool false)], args := [d] }
  | _ => none }
def DigestSumsWrongFalsely : Prop := digestSumsRow.holds Tryd.pinned (OpenSpec.ofChange digestSumsWrong)

/-- 'causewaylaw01.DigestParts': WHATEVER THE INPUT: true; the input reads as it did. -/
def digestPartsSpec : ChangeSpec := { name := "digestParts", fn := fun _ => fun
  | [d] => { results := [.lit (.bool true)], args := [d] }
  | _ => none }
def digestPartsRow : OpenClaim := { program := "ytmjdfglidfdkaaadoor", sum := "0c1b3cb05c3f9276f2657b9e79a1188c70add1dd9eea5ae819ecdc60b619c930", func := "causeway/causewaylaw01.DigestParts", spec := "digestParts", inPlace := ["internal/abi.NoEscape"], named := ["causeway/digest.steps", "causeway/causewayref01.beginning", "causeway/causewayref01.constants"], apart := false, laid := [("causeway/causewayref01.constants", laid_causeway_causewayref01_constants), ("causeway/causewayref01.beginning", laid_causeway_causewayref01_beginning), ("causeway/digest.steps", laid_causeway_digest_steps)] }
def DigestPartsSaid : Prop := digestPartsRow.holds Tryd.pinned (OpenSpec.ofChange digestPartsSpec)

/-- ITS FALSE NEIGHBOUR: 'it returns false'. Refute it at one input. -/
def digestPartsWrong : ChangeSpec := { name := "digestParts", fn := fun _ => fun
  | [d] => { results := [.lit (.bool false)], args := [d] }
  | _ => none }
def DigestPartsWrongFalsely : Prop := digestPartsRow.holds Tryd.pinned (OpenSpec.ofChange digestPartsWrong)

/-- 'causewaylaw01.DigestApart': WHATEVER THE INPUT: true; the input reads as it did. -/
def digestApartSpec : ChangeSpec := { name := "digestApart", fn := fun _ => fun
  | [d1, d2, d3] => { results := [.lit (.bool true)], args := [d1, d2, d3] }
  | _ => none }
def digestApartRow : OpenClaim := { program := "ytmjdfglidfdkaaadoor", sum := "0c1b3cb05c3f9276f2657b9e79a1188c70add1dd9eea5ae819ecdc60b619c930", func := "causeway/causewaylaw01.DigestApart", spec := "digestApart", inPlace := ["internal/abi.NoEscape"], named := ["causeway/digest.steps"], apart := false, laid := [("causeway/digest.steps", laid_causeway_digest_steps)] }
def DigestApartSaid : Prop := digestApartRow.holds Tryd.pinned (OpenSpec.ofChange digestApartSpec)

/-- ITS FALSE NEIGHBOUR: 'it returns false'. Refute it at one input. -/
def digestApartWrong : ChangeSpec := { name := "digestApart", fn := fun _ => fun
  | [d1, d2, d3] => { results := [.lit (.bool false)], args := [d1, d2, d3] }
  | _ => none }
def DigestApartWrongFalsely : Prop := digestApartRow.holds Tryd.pinned (OpenSpec.ofChange digestApartWrong)

/-- 'causewaylaw01.DigestHashers': WHATEVER THE INPUT: true; the input reads as it did. -/
def digestHashersSpec : ChangeSpec := { name := "digestHashers", fn := fun _ => fun
  | [d] => { results := [.lit (.bool true)], args := [d] }
  | _ => none }
def digestHashersRow : OpenClaim := { program := "ytmjdfglidfdkaaadoor", sum := "0c1b3cb05c3f9276f2657b9e79a1188c70add1dd9eea5ae819ecdc60b619c930", func := "causeway/causewaylaw01.DigestHashers", spec := "digestHashers", inPlace := ["internal/abi.NoEscape"], named := ["causeway/digest.steps", "causeway/causewayref01.beginning", "causeway/causewayref01.constants"], apart := false, laid := [("causeway/causewayref01.constants", laid_causeway_causewayref01_constants), ("causeway/causewayref01.beginning", laid_causeway_causewayref01_beginning), ("causeway/digest.steps", laid_causeway_digest_steps)] }
def DigestHashersSaid : Prop := digestHashersRow.holds Tryd.pinned (OpenSpec.ofChange digestHashersSpec)

/-- ITS FALSE NEIGHBOUR: 'it returns false'. Refute it at one input. -/
def digestHashersWrong : ChangeSpec := { name := "digestHashers", fn := fun _ => fun
  | [d] => { results := [.lit (.bool false)], args := [d] }
  | _ => none }
def DigestHashersWrongFalsely : Prop := digestHashersRow.holds Tryd.pinned (OpenSpec.ofChange digestHashersWrong)

/-- 'causewaylaw01.DigestBits': WHATEVER THE INPUT: true; the input reads as it did. -/
def digestBitsSpec : ChangeSpec := { name := "digestBits", fn := fun _ => fun
  | [d1, d2] => { results := [.lit (.bool true)], args := [d1, d2] }
  | _ => none }
def digestBitsRow : OpenClaim := { program := "ytmjdfglidfdkaaadoor", sum := "0c1b3cb05c3f9276f2657b9e79a1188c70add1dd9eea5ae819ecdc60b619c930", func := "causeway/causewaylaw01.DigestBits", spec := "digestBits", inPlace := ["internal/abi.NoEscape"], named := ["causeway/digest.steps", "causeway/causewayref01.beginning", "causeway/causewayref01.constants"], apart := false, laid := [("causeway/causewayref01.constants", laid_causeway_causewayref01_constants), ("causeway/causewayref01.beginning", laid_causeway_causewayref01_beginning), ("causeway/digest.steps", laid_causeway_digest_steps)] }
def DigestBitsSaid : Prop := digestBitsRow.holds Tryd.pinned (OpenSpec.ofChange digestBitsSpec)

/-- ITS FALSE NEIGHBOUR: 'it returns false'. Refute it at one input. -/
def digestBitsWrong : ChangeSpec := { name := "digestBits", fn := fun _ => fun
  | [d1, d2] => { results := [.lit (.bool false)], args := [d1, d2] }
  | _ => none }
def DigestBitsWrongFalsely : Prop := digestBitsRow.holds Tryd.pinned (OpenSpec.ofChange digestBitsWrong)

/-- 'causewaylaw01.DigestBehind': WHATEVER THE INPUT: true; the input reads as it did. -/
def digestBehindSpec : ChangeSpec := { name := "digestBehind", fn := fun _ => fun
  | [d1, d2, d3] => { results := [.lit (.bool true)], args := [d1, d2, d3] }
  | _ => none }
def digestBehindRow : OpenClaim := { program := "ytmjdfglidfdkaaadoor", sum := "0c1b3cb05c3f9276f2657b9e79a1188c70add1dd9eea5ae819ecdc60b619c930", func := "causeway/causewaylaw01.DigestBehind", spec := "digestBehind", inPlace := ["internal/abi.NoEscape"], named := ["causeway/digest.steps"], apart := false, laid := [("causeway/digest.steps", laid_causeway_digest_steps)] }
def DigestBehindSaid : Prop := digestBehindRow.holds Tryd.pinned (OpenSpec.ofChange digestBehindSpec)

/-- ITS FALSE NEIGHBOUR: 'it returns false'. Refute it at one input. -/
def digestBehindWrong : ChangeSpec := { name := "digestBehind", fn := fun _ => fun
  | [d1, d2, d3] => { results := [.lit (.bool false)], args := [d1, d2, d3] }
  | _ => none }
def DigestBehindWrongFalsely : Prop := digestBehindRow.holds Tryd.pinned (OpenSpec.ofChange digestBehindWrong)

/-- 'causewaylaw01.DigestCuts': WHATEVER THE INPUT: true; the input reads as it did. -/
def digestCutsSpec : ChangeSpec := { name := "digestCuts", fn := fun _ => fun
  | [d1, d2] => { results := [.lit (.bool true)], args := [d1, d2] }
  | _ => none }
def digestCutsRow : OpenClaim := { program := "ytmjdfglidfdkaaadoor", sum := "0c1b3cb05c3f9276f2657b9e79a1188c70add1dd9eea5ae819ecdc60b619c930", func := "causeway/causewaylaw01.DigestCuts", spec := "digestCuts", inPlace := ["internal/abi.NoEscape"], named := ["causeway/digest.steps"], apart := false, laid := [("causeway/digest.steps", laid_causeway_digest_steps)] }
def DigestCutsSaid : Prop := digestCutsRow.holds Tryd.pinned (OpenSpec.ofChange digestCutsSpec)

/-- ITS FALSE NEIGHBOUR: 'it returns false'. Refute it at one input. -/
def digestCutsWrong : ChangeSpec := { name := "digestCuts", fn := fun _ => fun
  | [d1, d2] => { results := [.lit (.bool false)], args := [d1, d2] }
  | _ => none }
def DigestCutsWrongFalsely : Prop := digestCutsRow.holds Tryd.pinned (OpenSpec.ofChange digestCutsWrong)

/-- 'causewaylaw01.DigestHexes': WHATEVER THE INPUT: true; the input reads as it did. -/
def digestHexesSpec : ChangeSpec := { name := "digestHexes", fn := fun _ => fun
  | [d1, d2] => { results := [.lit (.bool true)], args := [d1, d2] }
  | _ => none }
def digestHexesRow : OpenClaim := { program := "ytmjdfglidfdkaaadoor", sum := "0c1b3cb05c3f9276f2657b9e79a1188c70add1dd9eea5ae819ecdc60b619c930", func := "causeway/causewaylaw01.DigestHexes", spec := "digestHexes", inPlace := ["internal/abi.NoEscape", "internal/bytealg.IndexByteString"], named := ["causeway/digest.steps"], apart := false, laid := [("causeway/digest.steps", laid_causeway_digest_steps)] }
def DigestHexesSaid : Prop := digestHexesRow.holds Tryd.pinned (OpenSpec.ofChange digestHexesSpec)

/-- ITS FALSE NEIGHBOUR: 'it returns false'. Refute it at one input. -/
def digestHexesWrong : ChangeSpec := { name := "digestHexes", fn := fun _ => fun
  | [d1, d2] => { results := [.lit (.bool false)], args := [d1, d2] }
  | _ => none }
def DigestHexesWrongFalsely : Prop := digestHexesRow.holds Tryd.pinned (OpenSpec.ofChange digestHexesWrong)

/- THE SECOND FORM. 'bulk': how many values and letters a reading holds, each counted each time it is reached (what is shared counts as often as it is met; a slice's spare places count too). A statement '..UptoSaid' is the law's where the arguments, and the package variables that the reading takes, are together of bulk at most 1048576: NARROWER than '..Said'. Prove '..Said' where nothing that the law and all that it calls make is longer than what came in: it says more and counts as full. Else prove '..UptoSaid'. A law counts once. -/
mutual
def uptoBulk {H : Type} : DataW H → Nat
  | .lit (.string bytes) => bytes.length + 1
  | .lit _ => 1
  | .nil => 1
  | .ptr d => uptoBulk d + 1
  | .slice elems spare => uptoBulkAll elems + uptoBulkAll spare + 1
  | .agg parts => uptoBulkAll parts + 1
  | .iface _ d => uptoBulk d + 1
  | .map entries => uptoBulkEntries entries + 1
  | .held _ => 1
def uptoBulkAll {H : Type} : List (DataW H) → Nat
  | [] => 0
  | d :: r => uptoBulk d + uptoBulkAll r
def uptoBulkEntries {H : Type} : List (Lit × DataW H) → Nat
  | [] => 0
  | x :: r => uptoBulkEntry x + uptoBulkEntries r
def uptoBulkEntry {H : Type} : Lit × DataW H → Nat
  | (.string bytes, d) => bytes.length + uptoBulk d + 1
  | (_, d) => uptoBulk d + 1
 end
def uptoSmall : (H : Type) → List (DataW H) → Bool := fun _ ds => decide (uptoBulkAll ds ≤ 1048576)
def OpenSpec.upto (s : _root_.Go.ChangeSpec) : _root_.Go.OpenSpec := { _root_.Go.OpenSpec.ofChange s with cond := some uptoSmall }

/-- 'causewaylaw01.DigestSums', WHERE WHAT IT READS IS OF BULK AT MOST 1048576: true; the input reads as it did. -/
def digestSumsUptoRow : OpenClaim := { program := "ytmjdfglidfdkaaadoor", sum := "0c1b3cb05c3f9276f2657b9e79a1188c70add1dd9eea5ae819ecdc60b619c930", func := "causeway/causewaylaw01.DigestSums", spec := "digestSums", inPlace := ["internal/abi.NoEscape"], named := ["causeway/digest.steps", "causeway/causewayref01.beginning", "causeway/causewayref01.constants"], apart := false, laid := [("causeway/causewayref01.constants", laid_causeway_causewayref01_constants), ("causeway/causewayref01.beginning", laid_causeway_causewayref01_beginning), ("causeway/digest.steps", laid_causeway_digest_steps)], narrowed := true }
def DigestSumsUptoSaid : Prop := digestSumsUptoRow.holds Tryd.pinned (OpenSpec.upto digestSumsSpec)

/-- 'causewaylaw01.DigestParts', WHERE WHAT IT READS IS OF BULK AT MOST 1048576: true; the input reads as it did. -/
def digestPartsUptoRow : OpenClaim := { program := "ytmjdfglidfdkaaadoor", sum := "0c1b3cb05c3f9276f2657b9e79a1188c70add1dd9eea5ae819ecdc60b619c930", func := "causeway/causewaylaw01.DigestParts", spec := "digestParts", inPlace := ["internal/abi.NoEscape"], named := ["causeway/digest.steps", "causeway/causewayref01.beginning", "causeway/causewayref01.constants"], apart := false, laid := [("causeway/causewayref01.constants", laid_causeway_causewayref01_constants), ("causeway/causewayref01.beginning", laid_causeway_causewayref01_beginning), ("causeway/digest.steps", laid_causeway_digest_steps)], narrowed := true }
def DigestPartsUptoSaid : Prop := digestPartsUptoRow.holds Tryd.pinned (OpenSpec.upto digestPartsSpec)

/-- 'causewaylaw01.DigestApart', WHERE WHAT IT READS IS OF BULK AT MOST 1048576: true; the input reads as it did. -/
def digestApartUptoRow : OpenClaim := { program := "ytmjdfglidfdkaaadoor", sum := "0c1b3cb05c3f9276f2657b9e79a1188c70add1dd9eea5ae819ecdc60b619c930", func := "causeway/causewaylaw01.DigestApart", spec := "digestApart", inPlace := ["internal/abi.NoEscape"], named := ["causeway/digest.steps"], apart := false, laid := [("causeway/digest.steps", laid_causeway_digest_steps)], narrowed := true }
def DigestApartUptoSaid : Prop := digestApartUptoRow.holds Tryd.pinned (OpenSpec.upto digestApartSpec)

/-- 'causewaylaw01.DigestHashers', WHERE WHAT IT READS IS OF BULK AT MOST 1048576: true; the input reads as it did. -/
def digestHashersUptoRow : OpenClaim := { program := "ytmjdfglidfdkaaadoor", sum := "0c1b3cb05c3f9276f2657b9e79a1188c70add1dd9eea5ae819ecdc60b619c930", func := "causeway/causewaylaw01.DigestHashers", spec := "digestHashers", inPlace := ["internal/abi.NoEscape"], named := ["causeway/digest.steps", "causeway/causewayref01.beginning", "causeway/causewayref01.constants"], apart := false, laid := [("causeway/causewayref01.constants", laid_causeway_causewayref01_constants), ("causeway/causewayref01.beginning", laid_causeway_causewayref01_beginning), ("causeway/digest.steps", laid_causeway_digest_steps)], narrowed := true }
def DigestHashersUptoSaid : Prop := digestHashersUptoRow.holds Tryd.pinned (OpenSpec.upto digestHashersSpec)

/-- 'causewaylaw01.DigestBits', WHERE WHAT IT READS IS OF BULK AT MOST 1048576: true; the input reads as it did. -/
def digestBitsUptoRow : OpenClaim := { program := "ytmjdfglidfdkaaadoor", sum := "0c1b3cb05c3f9276f2657b9e79a1188c70add1dd9eea5ae819ecdc60b619c930", func := "causeway/causewaylaw01.DigestBits", spec := "digestBits", inPlace := ["internal/abi.NoEscape"], named := ["causeway/digest.steps", "causeway/causewayref01.beginning", "causeway/causewayref01.constants"], apart := false, laid := [("causeway/causewayref01.constants", laid_causeway_causewayref01_constants), ("causeway/causewayref01.beginning", laid_causeway_causewayref01_beginning), ("causeway/digest.steps", laid_causeway_digest_steps)], narrowed := true }
def DigestBitsUptoSaid : Prop := digestBitsUptoRow.holds Tryd.pinned (OpenSpec.upto digestBitsSpec)

/-- 'causewaylaw01.DigestBehind', WHERE WHAT IT READS IS OF BULK AT MOST 1048576: true; the input reads as it did. -/
def digestBehindUptoRow : OpenClaim := { program := "ytmjdfglidfdkaaadoor", sum := "0c1b3cb05c3f9276f2657b9e79a1188c70add1dd9eea5ae819ecdc60b619c930", func := "causeway/causewaylaw01.DigestBehind", spec := "digestBehind", inPlace := ["internal/abi.NoEscape"], named := ["causeway/digest.steps"], apart := false, laid := [("causeway/digest.steps", laid_causeway_digest_steps)], narrowed := true }
def DigestBehindUptoSaid : Prop := digestBehindUptoRow.holds Tryd.pinned (OpenSpec.upto digestBehindSpec)

/-- 'causewaylaw01.DigestCuts', WHERE WHAT IT READS IS OF BULK AT MOST 1048576: true; the input reads as it did. -/
def digestCutsUptoRow : OpenClaim := { program := "ytmjdfglidfdkaaadoor", sum := "0c1b3cb05c3f9276f2657b9e79a1188c70add1dd9eea5ae819ecdc60b619c930", func := "causeway/causewaylaw01.DigestCuts", spec := "digestCuts", inPlace := ["internal/abi.NoEscape"], named := ["causeway/digest.steps"], apart := false, laid := [("causeway/digest.steps", laid_causeway_digest_steps)], narrowed := true }
def DigestCutsUptoSaid : Prop := digestCutsUptoRow.holds Tryd.pinned (OpenSpec.upto digestCutsSpec)

/-- 'causewaylaw01.DigestHexes', WHERE WHAT IT READS IS OF BULK AT MOST 1048576: true; the input reads as it did. -/
def digestHexesUptoRow : OpenClaim := { program := "ytmjdfglidfdkaaadoor", sum := "0c1b3cb05c3f9276f2657b9e79a1188c70add1dd9eea5ae819ecdc60b619c930", func := "causeway/causewaylaw01.DigestHexes", spec := "digestHexes", inPlace := ["internal/abi.NoEscape", "internal/bytealg.IndexByteString"], named := ["causeway/digest.steps"], apart := false, laid := [("causeway/digest.steps", laid_causeway_digest_steps)], narrowed := true }
def DigestHexesUptoSaid : Prop := digestHexesUptoRow.holds Tryd.pinned (OpenSpec.upto digestHexesSpec)

end Rows
end Go.Proofs.YtmjdfglidfdkaaaDoor
