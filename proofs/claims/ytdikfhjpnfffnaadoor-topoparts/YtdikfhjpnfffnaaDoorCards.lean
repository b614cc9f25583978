/-
  DERIVED. GIVEN WITH THE SEED: THE CARDS: each row of YtdikfhjpnfffnaaDoorRows.lean that lists a variable, with what it lists TIED to the program's text (the seventh form; the later family's looks); each row that meets fmt, with fmt's text TOLD by the authors' own Lean function (tested against real Go, not proved from fmt's source: count such statements apart). THE CARD IS WHAT COUNTS. Prove the row's statement (the work); the ties are given (YtdikfhjpnfffnaaDoorTie.lean); close each card by the builder's one call (the guide's Derived/Test/ToyasCard.lean, 'card_holds'). Laid BY PROGRAM, IN A SANDBOX (cutbox-door.mjs). By AI agents, Wed Nov 11 2026. No macro, syntax, notation, axiom, sorry.
-/
import Derived.Test.YtdikfhjpnfffnaaDoorRows
import GoSem.ClaimSeven
namespace Go.Proofs.YtdikfhjpnfffnaaDoor
namespace Rows

/-- THE TIED CARD OF 'berthinglaw40.TopoTells'. -/
def topoTellsCard : Claim7 := { stood := { row := topoTellsRow, standIns := [], harness := (true, "46d69a9b80a08936e8878508e635f535647846d77a79746f1f6d264cacc6341e"), looks := false }, kinds := [], alts := [], laidByText := true, laidKinds := [.data, .data, .data], laidTests := true, laidLooks := .later }
def TopoTellsCardSaid : Prop := Claim7.holds Tryd.pinned (.plain (OpenSpec.ofChange topoTellsSpec)) topoTellsCard

/-- THE TIED CARD OF 'berthinglaw40.TopoWhole'. -/
def topoWholeCard : Claim7 := { stood := { row := topoWholeRow, standIns := [], harness := (true, "46d69a9b80a08936e8878508e635f535647846d77a79746f1f6d264cacc6341e"), looks := false }, kinds := [], alts := [], laidByText := true, laidKinds := [.data, .data, .data], laidTests := true, laidLooks := .later }
def TopoWholeCardSaid : Prop := Claim7.holds Tryd.pinned (.plain (OpenSpec.ofChange topoWholeSpec)) topoWholeCard

/-- THE TIED CARD OF 'berthinglaw40.TopoParts'. -/
def topoPartsCard : Claim7 := { stood := { row := topoPartsRow, standIns := [], harness := (true, "46d69a9b80a08936e8878508e635f535647846d77a79746f1f6d264cacc6341e"), looks := false }, kinds := [], alts := [], laidByText := true, laidKinds := [.data, .data, .data], laidTests := true, laidLooks := .later }
def TopoPartsCardSaid : Prop := Claim7.holds Tryd.pinned (.plain (OpenSpec.ofChange topoPartsSpec)) topoPartsCard

/-- THE SECOND FORM's CARD OF 'berthinglaw40.TopoTells'. -/
def topoTellsUptoCard : Claim7 := { stood := { row := topoTellsUptoRow, standIns := [], harness := (true, "46d69a9b80a08936e8878508e635f535647846d77a79746f1f6d264cacc6341e"), looks := false }, kinds := [], alts := [], laidByText := true, laidKinds := [.data, .data, .data], laidTests := true, laidLooks := .later }
def TopoTellsUptoCardSaid : Prop := Claim7.holds Tryd.pinned (.plain (OpenSpec.upto topoTellsSpec)) topoTellsUptoCard

/-- THE SECOND FORM's CARD OF 'berthinglaw40.TopoWhole'. -/
def topoWholeUptoCard : Claim7 := { stood := { row := topoWholeUptoRow, standIns := [], harness := (true, "46d69a9b80a08936e8878508e635f535647846d77a79746f1f6d264cacc6341e"), looks := false }, kinds := [], alts := [], laidByText := true, laidKinds := [.data, .data, .data], laidTests := true, laidLooks := .later }
def TopoWholeUptoCardSaid : Prop := Claim7.holds Tryd.pinned (.plain (OpenSpec.upto topoWholeSpec)) topoWholeUptoCard

/-- THE SECOND FORM's CARD OF 'berthinglaw40.TopoParts'. -/
def topoPartsUptoCard : Claim7 := { stood := { row := topoPartsUptoRow, standIns := [], harness := (true, "46d69a9b80a08936e8878508e635f535647846d77a79746f1f6d264cacc6341e"), looks := false }, kinds := [], alts := [], laidByText := true, laidKinds := [.data, .data, .data], laidTests := true, laidLooks := .later }
def TopoPartsUptoCardSaid : Prop := Claim7.holds Tryd.pinned (.plain (OpenSpec.upto topoPartsSpec)) topoPartsUptoCard
end Rows
end Go.Proofs.YtdikfhjpnfffnaaDoor
