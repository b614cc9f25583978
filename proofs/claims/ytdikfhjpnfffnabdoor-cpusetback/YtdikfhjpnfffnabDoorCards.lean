/-
  DERIVED. GIVEN WITH THE SEED: THE CARDS: each row of YtdikfhjpnfffnabDoorRows.lean that lists a variable, with what it lists TIED to the program's text (the seventh form; the later family's looks); each row that meets fmt, with fmt's text TOLD by the authors' own Lean function (tested against real Go, not proved from fmt's source: count such statements apart). THE CARD IS WHAT COUNTS. Prove the row's statement (the work); the ties are given (YtdikfhjpnfffnabDoorTie.lean); close each card by the builder's one call (the guide's Derived/Test/ToyasCard.lean, 'card_holds'). Laid BY PROGRAM, IN A SANDBOX (cutbox-door.mjs). By AI agents, Wed Nov 11 2026. No macro, syntax, notation, axiom, sorry.
-/
import Derived.Test.YtdikfhjpnfffnabDoorRows
import GoSem.ClaimSeven
namespace Go.Proofs.YtdikfhjpnfffnabDoor
namespace Rows

/-- THE TIED CARD OF 'berthinglaw39.CpusetTexts'. -/
def cpusetTextsCard : Claim7 := { stood := { row := cpusetTextsRow, standIns := [], harness := (true, "8cd561e43ca7a8251023a66001e6a79d781253e54d2bd0c656e2314fbb762232"), looks := false }, kinds := [], alts := [], laidByText := true, laidKinds := [.data, .data, .data, .data, .pinned], laidTests := true, laidLooks := .later }
def CpusetTextsCardSaid : Prop := Claim7.holds Tryd.pinned (.plain (OpenSpec.ofChange cpusetTextsSpec)) cpusetTextsCard

/-- THE TIED CARD OF 'berthinglaw39.CpusetTwo'. -/
def cpusetTwoCard : Claim7 := { stood := { row := cpusetTwoRow, standIns := [], harness := (true, "8cd561e43ca7a8251023a66001e6a79d781253e54d2bd0c656e2314fbb762232"), looks := false }, kinds := [], alts := [], laidByText := true, laidKinds := [.data, .data, .data, .data, .pinned], laidTests := true, laidLooks := .later }
def CpusetTwoCardSaid : Prop := Claim7.holds Tryd.pinned (.plain (OpenSpec.ofChange cpusetTwoSpec)) cpusetTwoCard

/-- THE TIED CARD OF 'berthinglaw39.CpusetBack'. -/
def cpusetBackCard : Claim7 := { stood := { row := cpusetBackRow, standIns := [], harness := (true, "8cd561e43ca7a8251023a66001e6a79d781253e54d2bd0c656e2314fbb762232"), looks := false }, kinds := [], alts := [], laidByText := true, laidKinds := [.data, .data, .data, .data, .pinned], laidTests := true, laidLooks := .later }
def CpusetBackCardSaid : Prop := Claim7.holds Tryd.pinned (.plain (OpenSpec.ofChange cpusetBackSpec)) cpusetBackCard

/-- THE TIED CARD OF 'berthinglaw39.CpusetTells'. -/
def cpusetTellsCard : Claim7 := { stood := { row := cpusetTellsRow, standIns := [], harness := (true, "8cd561e43ca7a8251023a66001e6a79d781253e54d2bd0c656e2314fbb762232"), looks := false }, kinds := [], alts := [], laidByText := true, laidKinds := [.data, .data, .data, .data, .pinned], laidTests := true, laidLooks := .later }
def CpusetTellsCardSaid : Prop := Claim7.holds Tryd.pinned (.plain (OpenSpec.ofChange cpusetTellsSpec)) cpusetTellsCard

/-- THE SECOND FORM's CARD OF 'berthinglaw39.CpusetTexts'. -/
def cpusetTextsUptoCard : Claim7 := { stood := { row := cpusetTextsUptoRow, standIns := [], harness := (true, "8cd561e43ca7a8251023a66001e6a79d781253e54d2bd0c656e2314fbb762232"), looks := false }, kinds := [], alts := [], laidByText := true, laidKinds := [.data, .data, .data, .data, .pinned], laidTests := true, laidLooks := .later }
def CpusetTextsUptoCardSaid : Prop := Claim7.holds Tryd.pinned (.plain (OpenSpec.upto cpusetTextsSpec)) cpusetTextsUptoCard

/-- THE SECOND FORM's CARD OF 'berthinglaw39.CpusetTwo'. -/
def cpusetTwoUptoCard : Claim7 := { stood := { row := cpusetTwoUptoRow, standIns := [], harness := (true, "8cd561e43ca7a8251023a66001e6a79d781253e54d2bd0c656e2314fbb762232"), looks := false }, kinds := [], alts := [], laidByText := true, laidKinds := [.data, .data, .data, .data, .pinned], laidTests := true, laidLooks := .later }
def CpusetTwoUptoCardSaid : Prop := Claim7.holds Tryd.pinned (.plain (OpenSpec.upto cpusetTwoSpec)) cpusetTwoUptoCard

/-- THE SECOND FORM's CARD OF 'berthinglaw39.CpusetBack'. -/
def cpusetBackUptoCard : Claim7 := { stood := { row := cpusetBackUptoRow, standIns := [], harness := (true, "8cd561e43ca7a8251023a66001e6a79d781253e54d2bd0c656e2314fbb762232"), looks := false }, kinds := [], alts := [], laidByText := true, laidKinds := [.data, .data, .data, .data, .pinned], laidTests := true, laidLooks := .later }
def CpusetBackUptoCardSaid : Prop := Claim7.holds Tryd.pinned (.plain (OpenSpec.upto cpusetBackSpec)) cpusetBackUptoCard

/-- THE SECOND FORM's CARD OF 'berthinglaw39.CpusetTells'. -/
def cpusetTellsUptoCard : Claim7 := { stood := { row := cpusetTellsUptoRow, standIns := [], harness := (true, "8cd561e43ca7a8251023a66001e6a79d781253e54d2bd0c656e2314fbb762232"), looks := false }, kinds := [], alts := [], laidByText := true, laidKinds := [.data, .data, .data, .data, .pinned], laidTests := true, laidLooks := .later }
def CpusetTellsUptoCardSaid : Prop := Claim7.holds Tryd.pinned (.plain (OpenSpec.upto cpusetTellsSpec)) cpusetTellsUptoCard
end Rows
end Go.Proofs.YtdikfhjpnfffnabDoor
