/-
  DERIVED. GIVEN WITH THE SEED: THE CARDS: each row of YtndmimljnhieiaaDoorRows.lean that lists a variable, with what it lists TIED to the program's text (the seventh form; the later family's looks); each row that meets fmt, with fmt's text TOLD by the authors' own Lean function (tested against real Go, not proved from fmt's source: count such statements apart). THE CARD IS WHAT COUNTS. Prove the row's statement (the work); the ties are given (YtndmimljnhieiaaDoorTie.lean); close each card by the builder's one call (the guide's Derived/Test/ToyasCard.lean, 'card_holds'). Laid BY PROGRAM, IN A SANDBOX (cutbox-door.mjs). By AI agents, Wed Nov 11 2026. No macro, syntax, notation, axiom, sorry.
-/
import Derived.Test.YtndmimljnhieiaaDoorRows
import GoSem.ClaimSeven
namespace Go.Proofs.YtndmimljnhieiaaDoor
namespace Rows

/-- THE TIED CARD OF 'vinculumlaw11.TowerHeights'. -/
def towerHeightsCard : Claim7 := { stood := { row := towerHeightsRow, standIns := [], harness := (true, "f87afbc75663e750a67f497d560ddfce7d9bc39b7bf490c59357595ee764e982"), looks := false }, kinds := [], alts := [], laidByText := true, laidKinds := [.data], laidTests := true, laidLooks := .later }
def TowerHeightsCardSaid : Prop := Claim7.holds Tryd.pinned (.plain (OpenSpec.ofChange towerHeightsSpec)) towerHeightsCard

/-- THE TIED CARD OF 'vinculumlaw11.TowerAnyway'. -/
def towerAnywayCard : Claim7 := { stood := { row := towerAnywayRow, standIns := [], harness := (true, "f87afbc75663e750a67f497d560ddfce7d9bc39b7bf490c59357595ee764e982"), looks := false }, kinds := [], alts := [], laidByText := true, laidKinds := [.data], laidTests := true, laidLooks := .later }
def TowerAnywayCardSaid : Prop := Claim7.holds Tryd.pinned (.plain (OpenSpec.ofChange towerAnywaySpec)) towerAnywayCard

/-- THE TIED CARD OF 'vinculumlaw11.TowerNext'. -/
def towerNextCard : Claim7 := { stood := { row := towerNextRow, standIns := [], harness := (true, "f87afbc75663e750a67f497d560ddfce7d9bc39b7bf490c59357595ee764e982"), looks := false }, kinds := [], alts := [], laidByText := true, laidKinds := [.data], laidTests := true, laidLooks := .later }
def TowerNextCardSaid : Prop := Claim7.holds Tryd.pinned (.plain (OpenSpec.ofChange towerNextSpec)) towerNextCard

/-- THE TIED CARD OF 'vinculumlaw11.TowerLevels'. -/
def towerLevelsCard : Claim7 := { stood := { row := towerLevelsRow, standIns := [], harness := (true, "f87afbc75663e750a67f497d560ddfce7d9bc39b7bf490c59357595ee764e982"), looks := false }, kinds := [], alts := [], laidByText := true, laidKinds := [.data], laidTests := true, laidLooks := .later }
def TowerLevelsCardSaid : Prop := Claim7.holds Tryd.pinned (.plain (OpenSpec.ofChange towerLevelsSpec)) towerLevelsCard

/-- THE TIED CARD OF 'vinculumlaw11.TowerPlays'. -/
def towerPlaysCard : Claim7 := { stood := { row := towerPlaysRow, standIns := [], harness := (true, "f87afbc75663e750a67f497d560ddfce7d9bc39b7bf490c59357595ee764e982"), looks := false }, kinds := [], alts := [], laidByText := true, laidKinds := [.data], laidTests := true, laidLooks := .later }
def TowerPlaysCardSaid : Prop := Claim7.holds Tryd.pinned (.plain (OpenSpec.ofChange towerPlaysSpec)) towerPlaysCard

/-- THE TIED CARD OF 'vinculumlaw12.CursorEnds'. -/
def cursorEndsCard : Claim7 := { stood := { row := cursorEndsRow, standIns := [], harness := (true, "f87afbc75663e750a67f497d560ddfce7d9bc39b7bf490c59357595ee764e982"), looks := false }, kinds := [], alts := [], laidByText := true, laidKinds := [.data], laidTests := true, laidLooks := .later }
def CursorEndsCardSaid : Prop := Claim7.holds Tryd.pinned (.plain (OpenSpec.ofChange cursorEndsSpec)) cursorEndsCard

/-- THE TIED CARD OF 'vinculumlaw12.CursorWhole'. -/
def cursorWholeCard : Claim7 := { stood := { row := cursorWholeRow, standIns := [], harness := (true, "f87afbc75663e750a67f497d560ddfce7d9bc39b7bf490c59357595ee764e982"), looks := false }, kinds := [], alts := [], laidByText := true, laidKinds := [.data], laidTests := true, laidLooks := .later }
def CursorWholeCardSaid : Prop := Claim7.holds Tryd.pinned (.plain (OpenSpec.ofChange cursorWholeSpec)) cursorWholeCard

/-- THE TIED CARD OF 'vinculumlaw12.CursorAhead'. -/
def cursorAheadCard : Claim7 := { stood := { row := cursorAheadRow, standIns := [], harness := (true, "f87afbc75663e750a67f497d560ddfce7d9bc39b7bf490c59357595ee764e982"), looks := false }, kinds := [], alts := [], laidByText := true, laidKinds := [.data], laidTests := true, laidLooks := .later }
def CursorAheadCardSaid : Prop := Claim7.holds Tryd.pinned (.plain (OpenSpec.ofChange cursorAheadSpec)) cursorAheadCard

/-- THE TIED CARD OF 'vinculumlaw12.CursorPlays'. -/
def cursorPlaysCard : Claim7 := { stood := { row := cursorPlaysRow, standIns := [], harness := (true, "f87afbc75663e750a67f497d560ddfce7d9bc39b7bf490c59357595ee764e982"), looks := false }, kinds := [], alts := [], laidByText := true, laidKinds := [.data], laidTests := true, laidLooks := .later }
def CursorPlaysCardSaid : Prop := Claim7.holds Tryd.pinned (.plain (OpenSpec.ofChange cursorPlaysSpec)) cursorPlaysCard

/-- THE SECOND FORM's CARD OF 'vinculumlaw11.TowerHeights'. -/
def towerHeightsUptoCard : Claim7 := { stood := { row := towerHeightsUptoRow, standIns := [], harness := (true, "f87afbc75663e750a67f497d560ddfce7d9bc39b7bf490c59357595ee764e982"), looks := false }, kinds := [], alts := [], laidByText := true, laidKinds := [.data], laidTests := true, laidLooks := .later }
def TowerHeightsUptoCardSaid : Prop := Claim7.holds Tryd.pinned (.plain (OpenSpec.upto towerHeightsSpec)) towerHeightsUptoCard

/-- THE SECOND FORM's CARD OF 'vinculumlaw11.TowerAnyway'. -/
def towerAnywayUptoCard : Claim7 := { stood := { row := towerAnywayUptoRow, standIns := [], harness := (true, "f87afbc75663e750a67f497d560ddfce7d9bc39b7bf490c59357595ee764e982"), looks := false }, kinds := [], alts := [], laidByText := true, laidKinds := [.data], laidTests := true, laidLooks := .later }
def TowerAnywayUptoCardSaid : Prop := Claim7.holds Tryd.pinned (.plain (OpenSpec.upto towerAnywaySpec)) towerAnywayUptoCard

/-- THE SECOND FORM's CARD OF 'vinculumlaw11.TowerNext'. -/
def towerNextUptoCard : Claim7 := { stood := { row := towerNextUptoRow, standIns := [], harness := (true, "f87afbc75663e750a67f497d560ddfce7d9bc39b7bf490c59357595ee764e982"), looks := false }, kinds := [], alts := [], laidByText := true, laidKinds := [.data], laidTests := true, laidLooks := .later }
def TowerNextUptoCardSaid : Prop := Claim7.holds Tryd.pinned (.plain (OpenSpec.upto towerNextSpec)) towerNextUptoCard

/-- THE SECOND FORM's CARD OF 'vinculumlaw11.TowerLevels'. -/
def towerLevelsUptoCard : Claim7 := { stood := { row := towerLevelsUptoRow, standIns := [], harness := (true, "f87afbc75663e750a67f497d560ddfce7d9bc39b7bf490c59357595ee764e982"), looks := false }, kinds := [], alts := [], laidByText := true, laidKinds := [.data], laidTests := true, laidLooks := .later }
def TowerLevelsUptoCardSaid : Prop := Claim7.holds Tryd.pinned (.plain (OpenSpec.upto towerLevelsSpec)) towerLevelsUptoCard

/-- THE SECOND FORM's CARD OF 'vinculumlaw11.TowerPlays'. -/
def towerPlaysUptoCard : Claim7 := { stood := { row := towerPlaysUptoRow, standIns := [], harness := (true, "f87afbc75663e750a67f497d560ddfce7d9bc39b7bf490c59357595ee764e982"), looks := false }, kinds := [], alts := [], laidByText := true, laidKinds := [.data], laidTests := true, laidLooks := .later }
def TowerPlaysUptoCardSaid : Prop := Claim7.holds Tryd.pinned (.plain (OpenSpec.upto towerPlaysSpec)) towerPlaysUptoCard

/-- THE SECOND FORM's CARD OF 'vinculumlaw12.CursorEnds'. -/
def cursorEndsUptoCard : Claim7 := { stood := { row := cursorEndsUptoRow, standIns := [], harness := (true, "f87afbc75663e750a67f497d560ddfce7d9bc39b7bf490c59357595ee764e982"), looks := false }, kinds := [], alts := [], laidByText := true, laidKinds := [.data], laidTests := true, laidLooks := .later }
def CursorEndsUptoCardSaid : Prop := Claim7.holds Tryd.pinned (.plain (OpenSpec.upto cursorEndsSpec)) cursorEndsUptoCard

/-- THE SECOND FORM's CARD OF 'vinculumlaw12.CursorWhole'. -/
def cursorWholeUptoCard : Claim7 := { stood := { row := cursorWholeUptoRow, standIns := [], harness := (true, "f87afbc75663e750a67f497d560ddfce7d9bc39b7bf490c59357595ee764e982"), looks := false }, kinds := [], alts := [], laidByText := true, laidKinds := [.data], laidTests := true, laidLooks := .later }
def CursorWholeUptoCardSaid : Prop := Claim7.holds Tryd.pinned (.plain (OpenSpec.upto cursorWholeSpec)) cursorWholeUptoCard

/-- THE SECOND FORM's CARD OF 'vinculumlaw12.CursorAhead'. -/
def cursorAheadUptoCard : Claim7 := { stood := { row := cursorAheadUptoRow, standIns := [], harness := (true, "f87afbc75663e750a67f497d560ddfce7d9bc39b7bf490c59357595ee764e982"), looks := false }, kinds := [], alts := [], laidByText := true, laidKinds := [.data], laidTests := true, laidLooks := .later }
def CursorAheadUptoCardSaid : Prop := Claim7.holds Tryd.pinned (.plain (OpenSpec.upto cursorAheadSpec)) cursorAheadUptoCard

/-- THE SECOND FORM's CARD OF 'vinculumlaw12.CursorPlays'. -/
def cursorPlaysUptoCard : Claim7 := { stood := { row := cursorPlaysUptoRow, standIns := [], harness := (true, "f87afbc75663e750a67f497d560ddfce7d9bc39b7bf490c59357595ee764e982"), looks := false }, kinds := [], alts := [], laidByText := true, laidKinds := [.data], laidTests := true, laidLooks := .later }
def CursorPlaysUptoCardSaid : Prop := Claim7.holds Tryd.pinned (.plain (OpenSpec.upto cursorPlaysSpec)) cursorPlaysUptoCard
end Rows
end Go.Proofs.YtndmimljnhieiaaDoor
