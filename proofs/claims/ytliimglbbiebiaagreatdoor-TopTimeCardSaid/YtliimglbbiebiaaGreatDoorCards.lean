/-
  DERIVED. GIVEN WITH THE SEED: THE CARDS: each row of YtliimglbbiebiaaGreatDoorRows.lean that lists a variable, with what it lists TIED to the program's text (the seventh form; the later family's looks); each row that meets fmt, with fmt's text TOLD by the authors' own Lean function (tested against real Go, not proved from fmt's source: count such statements apart). THE CARD IS WHAT COUNTS. Prove the row's statement (the work); the ties are given (YtliimglbbiebiaaGreatDoorTie.lean); close each card by the builder's one call (the guide's Derived/Test/ToyasCard.lean, 'card_holds'). Laid BY PROGRAM, IN A SANDBOX (cutbox-door.mjs). By AI agents, Wed Nov 11 2026. No macro, syntax, notation, axiom, sorry.
-/
import Derived.Test.YtliimglbbiebiaaGreatDoorRows
import GoSem.ClaimSeven
namespace Go.Proofs.YtliimglbbiebiaaGreatDoor
namespace Rows

/-- THE TIED CARD OF 'cubbyholetop.TopTime'. -/
def topTimeCard : Claim7 := { stood := { row := topTimeRow, standIns := [], harness := (true, "65a2c7d0648cdf9069095455b2a07684bfeb3dd6a7e9aa4547f4ffcc87a73442"), looks := true }, kinds := [], alts := [], laidByText := true, laidKinds := [.sentinel, .sentinel, .data, .data, .data, .data, .listed, .pinned, .data], laidTests := true, laidLooks := .later }
def TopTimeCardSaid : Prop := Claim7.holds Tryz.pinned (.plain (OpenSpec.ofChange topTimeSpec)) topTimeCard

/-- THE TIED CARD OF 'cubbyholetop.TopPairs'. -/
def topPairsCard : Claim7 := { stood := { row := topPairsRow, standIns := [], harness := (true, "65a2c7d0648cdf9069095455b2a07684bfeb3dd6a7e9aa4547f4ffcc87a73442"), looks := true }, kinds := [], alts := [], laidByText := true, laidKinds := [.sentinel, .sentinel, .data, .data, .data, .data, .listed, .pinned, .data], laidTests := true, laidLooks := .later }
def TopPairsCardSaid : Prop := Claim7.holds Tryz.pinned (.plain (OpenSpec.ofChange topPairsSpec)) topPairsCard

/-- THE TIED CARD OF 'cubbyholetop.TopFull'. -/
def topFullCard : Claim7 := { stood := { row := topFullRow, standIns := [], harness := (true, "65a2c7d0648cdf9069095455b2a07684bfeb3dd6a7e9aa4547f4ffcc87a73442"), looks := true }, kinds := [], alts := [], laidByText := true, laidKinds := [.sentinel, .sentinel, .data, .data, .data, .data, .listed, .pinned, .data], laidTests := true, laidLooks := .later }
def TopFullCardSaid : Prop := Claim7.holds Tryz.pinned (.plain (OpenSpec.ofChange topFullSpec)) topFullCard

/-- THE SECOND FORM's CARD OF 'cubbyholetop.TopTime'. -/
def topTimeUptoCard : Claim7 := { stood := { row := topTimeUptoRow, standIns := [], harness := (true, "65a2c7d0648cdf9069095455b2a07684bfeb3dd6a7e9aa4547f4ffcc87a73442"), looks := true }, kinds := [], alts := [], laidByText := true, laidKinds := [.sentinel, .sentinel, .data, .data, .data, .data, .listed, .pinned, .data], laidTests := true, laidLooks := .later }
def TopTimeUptoCardSaid : Prop := Claim7.holds Tryz.pinned (.plain (OpenSpec.upto topTimeSpec)) topTimeUptoCard

/-- THE SECOND FORM's CARD OF 'cubbyholetop.TopPairs'. -/
def topPairsUptoCard : Claim7 := { stood := { row := topPairsUptoRow, standIns := [], harness := (true, "65a2c7d0648cdf9069095455b2a07684bfeb3dd6a7e9aa4547f4ffcc87a73442"), looks := true }, kinds := [], alts := [], laidByText := true, laidKinds := [.sentinel, .sentinel, .data, .data, .data, .data, .listed, .pinned, .data], laidTests := true, laidLooks := .later }
def TopPairsUptoCardSaid : Prop := Claim7.holds Tryz.pinned (.plain (OpenSpec.upto topPairsSpec)) topPairsUptoCard

/-- THE SECOND FORM's CARD OF 'cubbyholetop.TopFull'. -/
def topFullUptoCard : Claim7 := { stood := { row := topFullUptoRow, standIns := [], harness := (true, "65a2c7d0648cdf9069095455b2a07684bfeb3dd6a7e9aa4547f4ffcc87a73442"), looks := true }, kinds := [], alts := [], laidByText := true, laidKinds := [.sentinel, .sentinel, .data, .data, .data, .data, .listed, .pinned, .data], laidTests := true, laidLooks := .later }
def TopFullUptoCardSaid : Prop := Claim7.holds Tryz.pinned (.plain (OpenSpec.upto topFullSpec)) topFullUptoCard
end Rows
end Go.Proofs.YtliimglbbiebiaaGreatDoor
