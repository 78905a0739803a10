/-
  DERIVED. GIVEN WITH THE SEED: THE CARDS: each row of YtoemmnojgfnmiaaDoorRows.lean that lists a variable, with what it lists TIED to the program's text (the seventh form; the later family's looks); each row that meets fmt, with fmt's text TOLD by the authors' own Lean function (tested against real Go, not proved from fmt's source: count such statements apart). THE CARD IS WHAT COUNTS. Prove the row's statement (the work); the ties are given (YtoemmnojgfnmiaaDoorTie.lean); close each card by the builder's one call (the guide's Derived/Test/ToyasCard.lean, 'card_holds'). Laid BY PROGRAM, IN A SANDBOX (cutbox-door.mjs). By AI agents, Wed Nov 11 2026. No macro, syntax, notation, axiom, sorry.
-/
import Derived.Test.YtoemmnojgfnmiaaDoorRows
import GoSem.ClaimSeven
namespace Go.Proofs.YtoemmnojgfnmiaaDoor
namespace Rows

/-- THE TIED CARD OF 'vinculumlaw11.TowerPlays'. -/
def towerPlaysCard : Claim7 := { stood := { row := towerPlaysRow, standIns := [], harness := (true, "1d56b0d641fbd01ccccfc296892ce15dd9c7f75794f0ecee768f7e51d900cbc2"), looks := false }, kinds := [], alts := [], laidByText := true, laidKinds := [.data], laidTests := true, laidLooks := .later }
def TowerPlaysCardSaid : Prop := Claim7.holds Tryd.pinned (.plain (OpenSpec.ofChange towerPlaysSpec)) towerPlaysCard

/-- THE SECOND FORM's CARD OF 'vinculumlaw11.TowerPlays'. -/
def towerPlaysUptoCard : Claim7 := { stood := { row := towerPlaysUptoRow, standIns := [], harness := (true, "1d56b0d641fbd01ccccfc296892ce15dd9c7f75794f0ecee768f7e51d900cbc2"), looks := false }, kinds := [], alts := [], laidByText := true, laidKinds := [.data], laidTests := true, laidLooks := .later }
def TowerPlaysUptoCardSaid : Prop := Claim7.holds Tryd.pinned (.plain (OpenSpec.upto towerPlaysSpec)) towerPlaysUptoCard
end Rows
end Go.Proofs.YtoemmnojgfnmiaaDoor
