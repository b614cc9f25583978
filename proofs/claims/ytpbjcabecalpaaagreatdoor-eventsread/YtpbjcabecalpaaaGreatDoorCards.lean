/-
  DERIVED. GIVEN WITH THE SEED: THE CARDS: each row of YtpbjcabecalpaaaGreatDoorRows.lean that lists a variable, with what it lists TIED to the program's text (the seventh form; the later family's looks); each row that meets fmt, with fmt's text TOLD by the authors' own Lean function (tested against real Go, not proved from fmt's source: count such statements apart). THE CARD IS WHAT COUNTS. Prove the row's statement (the work); the ties are given (YtpbjcabecalpaaaGreatDoorTie.lean); close each card by the builder's one call (the guide's Derived/Test/ToyasCard.lean, 'card_holds'). Laid BY PROGRAM, IN A SANDBOX (cutbox-door.mjs). By AI agents, Wed Nov 11 2026. No macro, syntax, notation, axiom, sorry.
-/
import Derived.Test.YtpbjcabecalpaaaGreatDoorRows
import GoSem.ClaimSeven
namespace Go.Proofs.YtpbjcabecalpaaaGreatDoor
namespace Rows

/-- THE TIED CARD OF 'berthinglaw34.EventsTell'. -/
def eventsTellCard : Claim7 := { stood := { row := eventsTellRow, standIns := [], harness := (true, "ae3bfe43b30dc5f2ea64d00c39e5694795fe34f8756fe490c034f505b7d0563a"), looks := true }, kinds := [], alts := [], laidByText := true, laidKinds := [.data, .data, .data, .data, .sentinel, .sentinel, .pinned], laidTests := true, laidLooks := .later }
def EventsTellCardSaid : Prop := Claim7.holds Tryz.pinned (.plain (OpenSpec.ofChange eventsTellSpec)) eventsTellCard

/-- THE TIED CARD OF 'berthinglaw34.EventsRead'. -/
def eventsReadCard : Claim7 := { stood := { row := eventsReadRow, standIns := [], harness := (true, "ae3bfe43b30dc5f2ea64d00c39e5694795fe34f8756fe490c034f505b7d0563a"), looks := true }, kinds := [], alts := [], laidByText := true, laidKinds := [.data, .data, .data, .data, .sentinel, .sentinel, .pinned], laidTests := true, laidLooks := .later }
def EventsReadCardSaid : Prop := Claim7.holds Tryz.pinned (.plain (OpenSpec.ofChange eventsReadSpec)) eventsReadCard

/-- THE TIED CARD OF 'berthinglaw34.EventsBack'. -/
def eventsBackCard : Claim7 := { stood := { row := eventsBackRow, standIns := [], harness := (true, "ae3bfe43b30dc5f2ea64d00c39e5694795fe34f8756fe490c034f505b7d0563a"), looks := true }, kinds := [], alts := [], laidByText := true, laidKinds := [.data, .data, .data, .data, .sentinel, .sentinel, .pinned], laidTests := true, laidLooks := .later }
def EventsBackCardSaid : Prop := Claim7.holds Tryz.pinned (.plain (OpenSpec.ofChange eventsBackSpec)) eventsBackCard

/-- THE SECOND FORM's CARD OF 'berthinglaw34.EventsTell'. -/
def eventsTellUptoCard : Claim7 := { stood := { row := eventsTellUptoRow, standIns := [], harness := (true, "ae3bfe43b30dc5f2ea64d00c39e5694795fe34f8756fe490c034f505b7d0563a"), looks := true }, kinds := [], alts := [], laidByText := true, laidKinds := [.data, .data, .data, .data, .sentinel, .sentinel, .pinned], laidTests := true, laidLooks := .later }
def EventsTellUptoCardSaid : Prop := Claim7.holds Tryz.pinned (.plain (OpenSpec.upto eventsTellSpec)) eventsTellUptoCard

/-- THE SECOND FORM's CARD OF 'berthinglaw34.EventsRead'. -/
def eventsReadUptoCard : Claim7 := { stood := { row := eventsReadUptoRow, standIns := [], harness := (true, "ae3bfe43b30dc5f2ea64d00c39e5694795fe34f8756fe490c034f505b7d0563a"), looks := true }, kinds := [], alts := [], laidByText := true, laidKinds := [.data, .data, .data, .data, .sentinel, .sentinel, .pinned], laidTests := true, laidLooks := .later }
def EventsReadUptoCardSaid : Prop := Claim7.holds Tryz.pinned (.plain (OpenSpec.upto eventsReadSpec)) eventsReadUptoCard

/-- THE SECOND FORM's CARD OF 'berthinglaw34.EventsBack'. -/
def eventsBackUptoCard : Claim7 := { stood := { row := eventsBackUptoRow, standIns := [], harness := (true, "ae3bfe43b30dc5f2ea64d00c39e5694795fe34f8756fe490c034f505b7d0563a"), looks := true }, kinds := [], alts := [], laidByText := true, laidKinds := [.data, .data, .data, .data, .sentinel, .sentinel, .pinned], laidTests := true, laidLooks := .later }
def EventsBackUptoCardSaid : Prop := Claim7.holds Tryz.pinned (.plain (OpenSpec.upto eventsBackSpec)) eventsBackUptoCard
end Rows
end Go.Proofs.YtpbjcabecalpaaaGreatDoor
