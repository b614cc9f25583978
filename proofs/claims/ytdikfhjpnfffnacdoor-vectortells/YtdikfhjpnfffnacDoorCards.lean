/-
  DERIVED. GIVEN WITH THE SEED: THE CARDS: each row of YtdikfhjpnfffnacDoorRows.lean that lists a variable, with what it lists TIED to the program's text (the seventh form; the later family's looks); each row that meets fmt, with fmt's text TOLD by the authors' own Lean function (tested against real Go, not proved from fmt's source: count such statements apart). THE CARD IS WHAT COUNTS. Prove the row's statement (the work); the ties are given (YtdikfhjpnfffnacDoorTie.lean); close each card by the builder's one call (the guide's Derived/Test/ToyasCard.lean, 'card_holds'). Laid BY PROGRAM, IN A SANDBOX (cutbox-door.mjs). By AI agents, Wed Nov 11 2026. No macro, syntax, notation, axiom, sorry.
-/
import Derived.Test.YtdikfhjpnfffnacDoorRows
import GoSem.ClaimSeven
namespace Go.Proofs.YtdikfhjpnfffnacDoor
namespace Rows

/-- THE TIED CARD OF 'berthinglaw04.VectorBack'. -/
def vectorBackCard : Claim7 := { stood := { row := vectorBackRow, standIns := [], harness := (true, "a07e40968302c3a2ca3805a5339a2135798fb408d28c6fa40beff196bea78046"), looks := false }, kinds := [], alts := [], laidByText := true, laidKinds := [.data, .pinned], laidTests := true, laidLooks := .later }
def VectorBackCardSaid : Prop := Claim7.holds Tryd.pinned (.plain (OpenSpec.ofChange vectorBackSpec)) vectorBackCard

/-- THE TIED CARD OF 'berthinglaw04.VectorTells'. -/
def vectorTellsCard : Claim7 := { stood := { row := vectorTellsRow, standIns := [], harness := (true, "a07e40968302c3a2ca3805a5339a2135798fb408d28c6fa40beff196bea78046"), looks := false }, kinds := [], alts := [], laidByText := true, laidKinds := [.data, .pinned], laidTests := true, laidLooks := .later }
def VectorTellsCardSaid : Prop := Claim7.holds Tryd.pinned (.plain (OpenSpec.ofChange vectorTellsSpec)) vectorTellsCard

/-- THE TIED CARD OF 'berthinglaw04.VectorSums'. -/
def vectorSumsCard : Claim7 := { stood := { row := vectorSumsRow, standIns := [], harness := (true, "a07e40968302c3a2ca3805a5339a2135798fb408d28c6fa40beff196bea78046"), looks := false }, kinds := [], alts := [], laidByText := true, laidKinds := [.data, .pinned], laidTests := true, laidLooks := .later }
def VectorSumsCardSaid : Prop := Claim7.holds Tryd.pinned (.plain (OpenSpec.ofChange vectorSumsSpec)) vectorSumsCard

/-- THE SECOND FORM's CARD OF 'berthinglaw04.VectorBack'. -/
def vectorBackUptoCard : Claim7 := { stood := { row := vectorBackUptoRow, standIns := [], harness := (true, "a07e40968302c3a2ca3805a5339a2135798fb408d28c6fa40beff196bea78046"), looks := false }, kinds := [], alts := [], laidByText := true, laidKinds := [.data, .pinned], laidTests := true, laidLooks := .later }
def VectorBackUptoCardSaid : Prop := Claim7.holds Tryd.pinned (.plain (OpenSpec.upto vectorBackSpec)) vectorBackUptoCard

/-- THE SECOND FORM's CARD OF 'berthinglaw04.VectorTells'. -/
def vectorTellsUptoCard : Claim7 := { stood := { row := vectorTellsUptoRow, standIns := [], harness := (true, "a07e40968302c3a2ca3805a5339a2135798fb408d28c6fa40beff196bea78046"), looks := false }, kinds := [], alts := [], laidByText := true, laidKinds := [.data, .pinned], laidTests := true, laidLooks := .later }
def VectorTellsUptoCardSaid : Prop := Claim7.holds Tryd.pinned (.plain (OpenSpec.upto vectorTellsSpec)) vectorTellsUptoCard

/-- THE SECOND FORM's CARD OF 'berthinglaw04.VectorSums'. -/
def vectorSumsUptoCard : Claim7 := { stood := { row := vectorSumsUptoRow, standIns := [], harness := (true, "a07e40968302c3a2ca3805a5339a2135798fb408d28c6fa40beff196bea78046"), looks := false }, kinds := [], alts := [], laidByText := true, laidKinds := [.data, .pinned], laidTests := true, laidLooks := .later }
def VectorSumsUptoCardSaid : Prop := Claim7.holds Tryd.pinned (.plain (OpenSpec.upto vectorSumsSpec)) vectorSumsUptoCard
end Rows
end Go.Proofs.YtdikfhjpnfffnacDoor
