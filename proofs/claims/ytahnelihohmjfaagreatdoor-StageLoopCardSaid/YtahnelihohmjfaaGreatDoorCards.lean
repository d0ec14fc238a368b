/-
  DERIVED. GIVEN WITH THE SEED: THE CARDS: each row of YtahnelihohmjfaaGreatDoorRows.lean that lists a variable, with what it lists TIED to the program's text (the seventh form; the later family's looks); each row that meets fmt, with fmt's text TOLD by the authors' own Lean function (tested against real Go, not proved from fmt's source: count such statements apart). THE CARD IS WHAT COUNTS. Prove the row's statement (the work); the ties are given (YtahnelihohmjfaaGreatDoorTie.lean); close each card by the builder's one call (the guide's Derived/Test/ToyasCard.lean, 'card_holds'). Laid BY PROGRAM, IN A SANDBOX (cutbox-door.mjs). By AI agents, Wed Nov 11 2026. No macro, syntax, notation, axiom, sorry.
-/
import Derived.Test.YtahnelihohmjfaaGreatDoorRows
import GoSem.ClaimSeven
namespace Go.Proofs.YtahnelihohmjfaaGreatDoor
namespace Rows

/-- THE TIED CARD OF 'eddylaw8.StageKeeps'. -/
def stageKeepsCard : Claim7 := { stood := { row := stageKeepsRow, standIns := [], harness := (true, "4a2988f24f6df7f4bd26c0e60f0433031228c47193db09850f8249c50b23d4c4"), looks := true }, kinds := [], alts := [], laidByText := true, laidKinds := [.data, .data, .data, .data, .sentinel, .sentinel, .data, .data, .data, .pinned], laidTests := true, laidLooks := .later }
def StageKeepsCardSaid : Prop := Claim7.holds Tryz.pinned (.plain (OpenSpec.ofChange stageKeepsSpec)) stageKeepsCard

/-- THE TIED CARD OF 'eddylaw8.StageApart'. -/
def stageApartCard : Claim7 := { stood := { row := stageApartRow, standIns := [], harness := (true, "4a2988f24f6df7f4bd26c0e60f0433031228c47193db09850f8249c50b23d4c4"), looks := true }, kinds := [], alts := [], laidByText := true, laidKinds := [.data, .data, .data, .data, .sentinel, .sentinel, .data, .data, .data, .pinned], laidTests := true, laidLooks := .later }
def StageApartCardSaid : Prop := Claim7.holds Tryz.pinned (.plain (OpenSpec.ofChange stageApartSpec)) stageApartCard

/-- THE TIED CARD OF 'eddylaw8.StageLoop'. -/
def stageLoopCard : Claim7 := { stood := { row := stageLoopRow, standIns := [], harness := (true, "4a2988f24f6df7f4bd26c0e60f0433031228c47193db09850f8249c50b23d4c4"), looks := true }, kinds := [], alts := [], laidByText := true, laidKinds := [.data, .data, .data, .data, .sentinel, .sentinel, .data, .data, .data, .pinned], laidTests := true, laidLooks := .later }
def StageLoopCardSaid : Prop := Claim7.holds Tryz.pinned (.plain (OpenSpec.ofChange stageLoopSpec)) stageLoopCard

/-- THE TIED CARD OF 'eddylaw8.StageFresh'. -/
def stageFreshCard : Claim7 := { stood := { row := stageFreshRow, standIns := [], harness := (true, "4a2988f24f6df7f4bd26c0e60f0433031228c47193db09850f8249c50b23d4c4"), looks := true }, kinds := [], alts := [], laidByText := true, laidKinds := [.data, .data, .data, .data, .sentinel, .sentinel, .data, .data, .data, .pinned], laidTests := true, laidLooks := .later }
def StageFreshCardSaid : Prop := Claim7.holds Tryz.pinned (.plain (OpenSpec.ofChange stageFreshSpec)) stageFreshCard

/-- THE SECOND FORM's CARD OF 'eddylaw8.StageKeeps'. -/
def stageKeepsUptoCard : Claim7 := { stood := { row := stageKeepsUptoRow, standIns := [], harness := (true, "4a2988f24f6df7f4bd26c0e60f0433031228c47193db09850f8249c50b23d4c4"), looks := true }, kinds := [], alts := [], laidByText := true, laidKinds := [.data, .data, .data, .data, .sentinel, .sentinel, .data, .data, .data, .pinned], laidTests := true, laidLooks := .later }
def StageKeepsUptoCardSaid : Prop := Claim7.holds Tryz.pinned (.plain (OpenSpec.upto stageKeepsSpec)) stageKeepsUptoCard

/-- THE SECOND FORM's CARD OF 'eddylaw8.StageApart'. -/
def stageApartUptoCard : Claim7 := { stood := { row := stageApartUptoRow, standIns := [], harness := (true, "4a2988f24f6df7f4bd26c0e60f0433031228c47193db09850f8249c50b23d4c4"), looks := true }, kinds := [], alts := [], laidByText := true, laidKinds := [.data, .data, .data, .data, .sentinel, .sentinel, .data, .data, .data, .pinned], laidTests := true, laidLooks := .later }
def StageApartUptoCardSaid : Prop := Claim7.holds Tryz.pinned (.plain (OpenSpec.upto stageApartSpec)) stageApartUptoCard

/-- THE SECOND FORM's CARD OF 'eddylaw8.StageLoop'. -/
def stageLoopUptoCard : Claim7 := { stood := { row := stageLoopUptoRow, standIns := [], harness := (true, "4a2988f24f6df7f4bd26c0e60f0433031228c47193db09850f8249c50b23d4c4"), looks := true }, kinds := [], alts := [], laidByText := true, laidKinds := [.data, .data, .data, .data, .sentinel, .sentinel, .data, .data, .data, .pinned], laidTests := true, laidLooks := .later }
def StageLoopUptoCardSaid : Prop := Claim7.holds Tryz.pinned (.plain (OpenSpec.upto stageLoopSpec)) stageLoopUptoCard

/-- THE SECOND FORM's CARD OF 'eddylaw8.StageFresh'. -/
def stageFreshUptoCard : Claim7 := { stood := { row := stageFreshUptoRow, standIns := [], harness := (true, "4a2988f24f6df7f4bd26c0e60f0433031228c47193db09850f8249c50b23d4c4"), looks := true }, kinds := [], alts := [], laidByText := true, laidKinds := [.data, .data, .data, .data, .sentinel, .sentinel, .data, .data, .data, .pinned], laidTests := true, laidLooks := .later }
def StageFreshUptoCardSaid : Prop := Claim7.holds Tryz.pinned (.plain (OpenSpec.upto stageFreshSpec)) stageFreshUptoCard
end Rows
end Go.Proofs.YtahnelihohmjfaaGreatDoor
