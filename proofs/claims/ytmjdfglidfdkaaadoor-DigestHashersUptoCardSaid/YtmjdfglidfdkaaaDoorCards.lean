/-
  DERIVED. GIVEN WITH THE SEED: THE CARDS: each row of YtmjdfglidfdkaaaDoorRows.lean that lists a variable, with what it lists TIED to the program's text (the seventh form; the later family's looks); each row that meets fmt, with fmt's text TOLD by the authors' own Lean function (tested against real Go, not proved from fmt's source: count such statements apart). THE CARD IS WHAT COUNTS. Prove the row's statement (the work); the ties are given (YtmjdfglidfdkaaaDoorTie.lean); close each card by the builder's one call (the guide's Derived/Test/ToyasCard.lean, 'card_holds'). Laid BY PROGRAM, IN A SANDBOX (cutbox-door.mjs). By AI agents, Wed Nov 11 2026. No macro, syntax, notation, axiom, sorry.
-/
import Derived.Test.YtmjdfglidfdkaaaDoorRows
import GoSem.ClaimSeven
namespace Go.Proofs.YtmjdfglidfdkaaaDoor
namespace Rows

/-- THE TIED CARD OF 'causewaylaw01.DigestSums'. -/
def digestSumsCard : Claim7 := { stood := { row := digestSumsRow, standIns := [], harness := (true, "e7248f1e9f209a5bca0d5db79eff23df8b5cac40c8c8911a40e2816542ba95ce"), looks := false }, kinds := [], alts := [], laidByText := true, laidKinds := [.data, .data, .data], laidTests := true, laidLooks := .later }
def DigestSumsCardSaid : Prop := Claim7.holds Tryd.pinned (.plain (OpenSpec.ofChange digestSumsSpec)) digestSumsCard

/-- THE TIED CARD OF 'causewaylaw01.DigestParts'. -/
def digestPartsCard : Claim7 := { stood := { row := digestPartsRow, standIns := [], harness := (true, "e7248f1e9f209a5bca0d5db79eff23df8b5cac40c8c8911a40e2816542ba95ce"), looks := false }, kinds := [], alts := [], laidByText := true, laidKinds := [.data, .data, .data], laidTests := true, laidLooks := .later }
def DigestPartsCardSaid : Prop := Claim7.holds Tryd.pinned (.plain (OpenSpec.ofChange digestPartsSpec)) digestPartsCard

/-- THE TIED CARD OF 'causewaylaw01.DigestApart'. -/
def digestApartCard : Claim7 := { stood := { row := digestApartRow, standIns := [], harness := (true, "e7248f1e9f209a5bca0d5db79eff23df8b5cac40c8c8911a40e2816542ba95ce"), looks := false }, kinds := [], alts := [], laidByText := true, laidKinds := [.data], laidTests := true, laidLooks := .later }
def DigestApartCardSaid : Prop := Claim7.holds Tryd.pinned (.plain (OpenSpec.ofChange digestApartSpec)) digestApartCard

/-- THE TIED CARD OF 'causewaylaw01.DigestHashers'. -/
def digestHashersCard : Claim7 := { stood := { row := digestHashersRow, standIns := [], harness := (true, "e7248f1e9f209a5bca0d5db79eff23df8b5cac40c8c8911a40e2816542ba95ce"), looks := false }, kinds := [], alts := [], laidByText := true, laidKinds := [.data, .data, .data], laidTests := true, laidLooks := .later }
def DigestHashersCardSaid : Prop := Claim7.holds Tryd.pinned (.plain (OpenSpec.ofChange digestHashersSpec)) digestHashersCard

/-- THE TIED CARD OF 'causewaylaw01.DigestBits'. -/
def digestBitsCard : Claim7 := { stood := { row := digestBitsRow, standIns := [], harness := (true, "e7248f1e9f209a5bca0d5db79eff23df8b5cac40c8c8911a40e2816542ba95ce"), looks := false }, kinds := [], alts := [], laidByText := true, laidKinds := [.data, .data, .data], laidTests := true, laidLooks := .later }
def DigestBitsCardSaid : Prop := Claim7.holds Tryd.pinned (.plain (OpenSpec.ofChange digestBitsSpec)) digestBitsCard

/-- THE TIED CARD OF 'causewaylaw01.DigestBehind'. -/
def digestBehindCard : Claim7 := { stood := { row := digestBehindRow, standIns := [], harness := (true, "e7248f1e9f209a5bca0d5db79eff23df8b5cac40c8c8911a40e2816542ba95ce"), looks := false }, kinds := [], alts := [], laidByText := true, laidKinds := [.data], laidTests := true, laidLooks := .later }
def DigestBehindCardSaid : Prop := Claim7.holds Tryd.pinned (.plain (OpenSpec.ofChange digestBehindSpec)) digestBehindCard

/-- THE TIED CARD OF 'causewaylaw01.DigestCuts'. -/
def digestCutsCard : Claim7 := { stood := { row := digestCutsRow, standIns := [], harness := (true, "e7248f1e9f209a5bca0d5db79eff23df8b5cac40c8c8911a40e2816542ba95ce"), looks := false }, kinds := [], alts := [], laidByText := true, laidKinds := [.data], laidTests := true, laidLooks := .later }
def DigestCutsCardSaid : Prop := Claim7.holds Tryd.pinned (.plain (OpenSpec.ofChange digestCutsSpec)) digestCutsCard

/-- THE TIED CARD OF 'causewaylaw01.DigestHexes'. -/
def digestHexesCard : Claim7 := { stood := { row := digestHexesRow, standIns := [], harness := (true, "e7248f1e9f209a5bca0d5db79eff23df8b5cac40c8c8911a40e2816542ba95ce"), looks := false }, kinds := [], alts := [], laidByText := true, laidKinds := [.data], laidTests := true, laidLooks := .later }
def DigestHexesCardSaid : Prop := Claim7.holds Tryd.pinned (.plain (OpenSpec.ofChange digestHexesSpec)) digestHexesCard

/-- THE SECOND FORM's CARD OF 'causewaylaw01.DigestSums'. -/
def digestSumsUptoCard : Claim7 := { stood := { row := digestSumsUptoRow, standIns := [], harness := (true, "e7248f1e9f209a5bca0d5db79eff23df8b5cac40c8c8911a40e2816542ba95ce"), looks := false }, kinds := [], alts := [], laidByText := true, laidKinds := [.data, .data, .data], laidTests := true, laidLooks := .later }
def DigestSumsUptoCardSaid : Prop := Claim7.holds Tryd.pinned (.plain (OpenSpec.upto digestSumsSpec)) digestSumsUptoCard

/-- THE SECOND FORM's CARD OF 'causewaylaw01.DigestParts'. -/
def digestPartsUptoCard : Claim7 := { stood := { row := digestPartsUptoRow, standIns := [], harness := (true, "e7248f1e9f209a5bca0d5db79eff23df8b5cac40c8c8911a40e2816542ba95ce"), looks := false }, kinds := [], alts := [], laidByText := true, laidKinds := [.data, .data, .data], laidTests := true, laidLooks := .later }
def DigestPartsUptoCardSaid : Prop := Claim7.holds Tryd.pinned (.plain (OpenSpec.upto digestPartsSpec)) digestPartsUptoCard

/-- THE SECOND FORM's CARD OF 'causewaylaw01.DigestApart'. -/
def digestApartUptoCard : Claim7 := { stood := { row := digestApartUptoRow, standIns := [], harness := (true, "e7248f1e9f209a5bca0d5db79eff23df8b5cac40c8c8911a40e2816542ba95ce"), looks := false }, kinds := [], alts := [], laidByText := true, laidKinds := [.data], laidTests := true, laidLooks := .later }
def DigestApartUptoCardSaid : Prop := Claim7.holds Tryd.pinned (.plain (OpenSpec.upto digestApartSpec)) digestApartUptoCard

/-- THE SECOND FORM's CARD OF 'causewaylaw01.DigestHashers'. -/
def digestHashersUptoCard : Claim7 := { stood := { row := digestHashersUptoRow, standIns := [], harness := (true, "e7248f1e9f209a5bca0d5db79eff23df8b5cac40c8c8911a40e2816542ba95ce"), looks := false }, kinds := [], alts := [], laidByText := true, laidKinds := [.data, .data, .data], laidTests := true, laidLooks := .later }
def DigestHashersUptoCardSaid : Prop := Claim7.holds Tryd.pinned (.plain (OpenSpec.upto digestHashersSpec)) digestHashersUptoCard

/-- THE SECOND FORM's CARD OF 'causewaylaw01.DigestBits'. -/
def digestBitsUptoCard : Claim7 := { stood := { row := digestBitsUptoRow, standIns := [], harness := (true, "e7248f1e9f209a5bca0d5db79eff23df8b5cac40c8c8911a40e2816542ba95ce"), looks := false }, kinds := [], alts := [], laidByText := true, laidKinds := [.data, .data, .data], laidTests := true, laidLooks := .later }
def DigestBitsUptoCardSaid : Prop := Claim7.holds Tryd.pinned (.plain (OpenSpec.upto digestBitsSpec)) digestBitsUptoCard

/-- THE SECOND FORM's CARD OF 'causewaylaw01.DigestBehind'. -/
def digestBehindUptoCard : Claim7 := { stood := { row := digestBehindUptoRow, standIns := [], harness := (true, "e7248f1e9f209a5bca0d5db79eff23df8b5cac40c8c8911a40e2816542ba95ce"), looks := false }, kinds := [], alts := [], laidByText := true, laidKinds := [.data], laidTests := true, laidLooks := .later }
def DigestBehindUptoCardSaid : Prop := Claim7.holds Tryd.pinned (.plain (OpenSpec.upto digestBehindSpec)) digestBehindUptoCard

/-- THE SECOND FORM's CARD OF 'causewaylaw01.DigestCuts'. -/
def digestCutsUptoCard : Claim7 := { stood := { row := digestCutsUptoRow, standIns := [], harness := (true, "e7248f1e9f209a5bca0d5db79eff23df8b5cac40c8c8911a40e2816542ba95ce"), looks := false }, kinds := [], alts := [], laidByText := true, laidKinds := [.data], laidTests := true, laidLooks := .later }
def DigestCutsUptoCardSaid : Prop := Claim7.holds Tryd.pinned (.plain (OpenSpec.upto digestCutsSpec)) digestCutsUptoCard

/-- THE SECOND FORM's CARD OF 'causewaylaw01.DigestHexes'. -/
def digestHexesUptoCard : Claim7 := { stood := { row := digestHexesUptoRow, standIns := [], harness := (true, "e7248f1e9f209a5bca0d5db79eff23df8b5cac40c8c8911a40e2816542ba95ce"), looks := false }, kinds := [], alts := [], laidByText := true, laidKinds := [.data], laidTests := true, laidLooks := .later }
def DigestHexesUptoCardSaid : Prop := Claim7.holds Tryd.pinned (.plain (OpenSpec.upto digestHexesSpec)) digestHexesUptoCard
end Rows
end Go.Proofs.YtmjdfglidfdkaaaDoor
