/-
  DERIVED. GIVEN WITH THE SEED: THE CARDS: each row of YtmdgefiojapogaaDoorRows.lean that lists a variable, with what it lists TIED to the program's text (the seventh form; the later family's looks); each row that meets fmt, with fmt's text TOLD by the authors' own Lean function (tested against real Go, not proved from fmt's source: count such statements apart). THE CARD IS WHAT COUNTS. Prove the row's statement (the work); the ties are given (YtmdgefiojapogaaDoorTie.lean); close each card by the builder's one call (the guide's Derived/Test/ToyasCard.lean, 'card_holds'). Laid BY PROGRAM, IN A SANDBOX (cutbox-door.mjs). By AI agents, Wed Nov 11 2026. No macro, syntax, notation, axiom, sorry.
-/
import Derived.Test.YtmdgefiojapogaaDoorRows
import GoSem.ClaimSeven
namespace Go.Proofs.YtmdgefiojapogaaDoor
namespace Rows

/-- THE TIED CARD OF 'causewaylaw15.InboxNames'. -/
def inboxNamesCard : Claim7 := { stood := { row := inboxNamesRow, standIns := [], harness := (true, "00627a737edb167fc181e1e07f6256dfc1d597825990ec544e861f29eaf8f99c"), looks := false }, kinds := [], alts := [], laidByText := true, laidKinds := [.data, .data, .data], laidTests := true, laidLooks := .later }
def InboxNamesCardSaid : Prop := Claim7.holds Tryd.pinned (.plain (OpenSpec.ofChange inboxNamesSpec)) inboxNamesCard

/-- THE TIED CARD OF 'causewaylaw15.InboxChecks'. -/
def inboxChecksCard : Claim7 := { stood := { row := inboxChecksRow, standIns := [], harness := (true, "00627a737edb167fc181e1e07f6256dfc1d597825990ec544e861f29eaf8f99c"), looks := false }, kinds := [], alts := [], laidByText := true, laidKinds := [.data, .data, .data], laidTests := true, laidLooks := .later }
def InboxChecksCardSaid : Prop := Claim7.holds Tryd.pinned (.plain (OpenSpec.ofChange inboxChecksSpec)) inboxChecksCard

/-- THE TIED CARD OF 'causewaylaw15.InboxRefuses'. -/
def inboxRefusesCard : Claim7 := { stood := { row := inboxRefusesRow, standIns := [], harness := (true, "00627a737edb167fc181e1e07f6256dfc1d597825990ec544e861f29eaf8f99c"), looks := false }, kinds := [], alts := [], laidByText := true, laidKinds := [.data, .data, .data], laidTests := true, laidLooks := .later }
def InboxRefusesCardSaid : Prop := Claim7.holds Tryd.pinned (.plain (OpenSpec.ofChange inboxRefusesSpec)) inboxRefusesCard

/-- THE TIED CARD OF 'causewaylaw15.InboxShows'. -/
def inboxShowsCard : Claim7 := { stood := { row := inboxShowsRow, standIns := [], harness := (true, "00627a737edb167fc181e1e07f6256dfc1d597825990ec544e861f29eaf8f99c"), looks := false }, kinds := [], alts := [], laidByText := true, laidKinds := [.data, .data, .data], laidTests := true, laidLooks := .later }
def InboxShowsCardSaid : Prop := Claim7.holds Tryd.pinned (.plain (OpenSpec.ofChange inboxShowsSpec)) inboxShowsCard

/-- THE TIED CARD OF 'causewaylaw15.InboxPlays'. -/
def inboxPlaysCard : Claim7 := { stood := { row := inboxPlaysRow, standIns := [], harness := (true, "00627a737edb167fc181e1e07f6256dfc1d597825990ec544e861f29eaf8f99c"), looks := false }, kinds := [], alts := [], laidByText := true, laidKinds := [.data, .data, .data], laidTests := true, laidLooks := .later }
def InboxPlaysCardSaid : Prop := Claim7.holds Tryd.pinned (.plain (OpenSpec.ofChange inboxPlaysSpec)) inboxPlaysCard

/-- THE TIED CARD OF 'causewaylaw15.InboxOne'. -/
def inboxOneCard : Claim7 := { stood := { row := inboxOneRow, standIns := [], harness := (true, "00627a737edb167fc181e1e07f6256dfc1d597825990ec544e861f29eaf8f99c"), looks := false }, kinds := [], alts := [], laidByText := true, laidKinds := [.data, .data, .data], laidTests := true, laidLooks := .later }
def InboxOneCardSaid : Prop := Claim7.holds Tryd.pinned (.plain (OpenSpec.ofChange inboxOneSpec)) inboxOneCard

/-- THE SECOND FORM's CARD OF 'causewaylaw15.InboxNames'. -/
def inboxNamesUptoCard : Claim7 := { stood := { row := inboxNamesUptoRow, standIns := [], harness := (true, "00627a737edb167fc181e1e07f6256dfc1d597825990ec544e861f29eaf8f99c"), looks := false }, kinds := [], alts := [], laidByText := true, laidKinds := [.data, .data, .data], laidTests := true, laidLooks := .later }
def InboxNamesUptoCardSaid : Prop := Claim7.holds Tryd.pinned (.plain (OpenSpec.upto inboxNamesSpec)) inboxNamesUptoCard

/-- THE SECOND FORM's CARD OF 'causewaylaw15.InboxChecks'. -/
def inboxChecksUptoCard : Claim7 := { stood := { row := inboxChecksUptoRow, standIns := [], harness := (true, "00627a737edb167fc181e1e07f6256dfc1d597825990ec544e861f29eaf8f99c"), looks := false }, kinds := [], alts := [], laidByText := true, laidKinds := [.data, .data, .data], laidTests := true, laidLooks := .later }
def InboxChecksUptoCardSaid : Prop := Claim7.holds Tryd.pinned (.plain (OpenSpec.upto inboxChecksSpec)) inboxChecksUptoCard

/-- THE SECOND FORM's CARD OF 'causewaylaw15.InboxRefuses'. -/
def inboxRefusesUptoCard : Claim7 := { stood := { row := inboxRefusesUptoRow, standIns := [], harness := (true, "00627a737edb167fc181e1e07f6256dfc1d597825990ec544e861f29eaf8f99c"), looks := false }, kinds := [], alts := [], laidByText := true, laidKinds := [.data, .data, .data], laidTests := true, laidLooks := .later }
def InboxRefusesUptoCardSaid : Prop := Claim7.holds Tryd.pinned (.plain (OpenSpec.upto inboxRefusesSpec)) inboxRefusesUptoCard

/-- THE SECOND FORM's CARD OF 'causewaylaw15.InboxShows'. -/
def inboxShowsUptoCard : Claim7 := { stood := { row := inboxShowsUptoRow, standIns := [], harness := (true, "00627a737edb167fc181e1e07f6256dfc1d597825990ec544e861f29eaf8f99c"), looks := false }, kinds := [], alts := [], laidByText := true, laidKinds := [.data, .data, .data], laidTests := true, laidLooks := .later }
def InboxShowsUptoCardSaid : Prop := Claim7.holds Tryd.pinned (.plain (OpenSpec.upto inboxShowsSpec)) inboxShowsUptoCard

/-- THE SECOND FORM's CARD OF 'causewaylaw15.InboxPlays'. -/
def inboxPlaysUptoCard : Claim7 := { stood := { row := inboxPlaysUptoRow, standIns := [], harness := (true, "00627a737edb167fc181e1e07f6256dfc1d597825990ec544e861f29eaf8f99c"), looks := false }, kinds := [], alts := [], laidByText := true, laidKinds := [.data, .data, .data], laidTests := true, laidLooks := .later }
def InboxPlaysUptoCardSaid : Prop := Claim7.holds Tryd.pinned (.plain (OpenSpec.upto inboxPlaysSpec)) inboxPlaysUptoCard

/-- THE SECOND FORM's CARD OF 'causewaylaw15.InboxOne'. -/
def inboxOneUptoCard : Claim7 := { stood := { row := inboxOneUptoRow, standIns := [], harness := (true, "00627a737edb167fc181e1e07f6256dfc1d597825990ec544e861f29eaf8f99c"), looks := false }, kinds := [], alts := [], laidByText := true, laidKinds := [.data, .data, .data], laidTests := true, laidLooks := .later }
def InboxOneUptoCardSaid : Prop := Claim7.holds Tryd.pinned (.plain (OpenSpec.upto inboxOneSpec)) inboxOneUptoCard
end Rows
end Go.Proofs.YtmdgefiojapogaaDoor
