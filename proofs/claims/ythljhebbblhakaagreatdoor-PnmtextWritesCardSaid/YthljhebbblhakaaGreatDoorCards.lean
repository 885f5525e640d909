/-
  DERIVED. GIVEN WITH THE SEED: THE CARDS: each row of YthljhebbblhakaaGreatDoorRows.lean that lists a variable, with what it lists TIED to the program's text (the seventh form; the later family's looks); each row that meets fmt, with fmt's text TOLD by the authors' own Lean function (tested against real Go, not proved from fmt's source: count such statements apart). THE CARD IS WHAT COUNTS. Prove the row's statement (the work); the ties are given (YthljhebbblhakaaGreatDoorTie.lean); close each card by the builder's one call (the guide's Derived/Test/ToyasCard.lean, 'card_holds'). Laid BY PROGRAM, IN A SANDBOX (cutbox-door.mjs). By AI agents, Wed Nov 11 2026. No macro, syntax, notation, axiom, sorry.
-/
import Derived.Test.YthljhebbblhakaaGreatDoorRows
import GoSem.ClaimSeven
namespace Go.Proofs.YthljhebbblhakaaGreatDoor
namespace Rows

/-- THE TIED CARD OF 'tintypelaw13.PnmtextWrites'. -/
def pnmtextWritesCard : Claim7 := { stood := { row := pnmtextWritesRow, standIns := [], harness := (true, "3c6bd78bdbec9fb6fba6746827900fcf7602fba8e3d1225b13e35c96c22e652a"), looks := false }, kinds := [], alts := [], laidByText := true, laidKinds := [.data, .data, .data], laidTests := true, laidLooks := .later }
def PnmtextWritesCardSaid : Prop := Claim7.holds Tryz.pinned (.plain (OpenSpec.ofChange pnmtextWritesSpec)) pnmtextWritesCard

/-- THE TIED CARD OF 'tintypelaw14.PnmrawWrites'. -/
def pnmrawWritesCard : Claim7 := { stood := { row := pnmrawWritesRow, standIns := [], harness := (true, "3c6bd78bdbec9fb6fba6746827900fcf7602fba8e3d1225b13e35c96c22e652a"), looks := false }, kinds := [], alts := [], laidByText := true, laidKinds := [.data, .data, .data], laidTests := true, laidLooks := .later }
def PnmrawWritesCardSaid : Prop := Claim7.holds Tryz.pinned (.plain (OpenSpec.ofChange pnmrawWritesSpec)) pnmrawWritesCard

/-- THE TIED CARD OF 'tintypelaw15.PnmBack'. -/
def pnmBackCard : Claim7 := { stood := { row := pnmBackRow, standIns := [], harness := (true, "3c6bd78bdbec9fb6fba6746827900fcf7602fba8e3d1225b13e35c96c22e652a"), looks := false }, kinds := [], alts := [], laidByText := true, laidKinds := [.data, .data, .data], laidTests := true, laidLooks := .later }
def PnmBackCardSaid : Prop := Claim7.holds Tryz.pinned (.plain (OpenSpec.ofChange pnmBackSpec)) pnmBackCard

/-- THE SECOND FORM's CARD OF 'tintypelaw13.PnmtextWrites'. -/
def pnmtextWritesUptoCard : Claim7 := { stood := { row := pnmtextWritesUptoRow, standIns := [], harness := (true, "3c6bd78bdbec9fb6fba6746827900fcf7602fba8e3d1225b13e35c96c22e652a"), looks := false }, kinds := [], alts := [], laidByText := true, laidKinds := [.data, .data, .data], laidTests := true, laidLooks := .later }
def PnmtextWritesUptoCardSaid : Prop := Claim7.holds Tryz.pinned (.plain (OpenSpec.upto pnmtextWritesSpec)) pnmtextWritesUptoCard

/-- THE SECOND FORM's CARD OF 'tintypelaw14.PnmrawWrites'. -/
def pnmrawWritesUptoCard : Claim7 := { stood := { row := pnmrawWritesUptoRow, standIns := [], harness := (true, "3c6bd78bdbec9fb6fba6746827900fcf7602fba8e3d1225b13e35c96c22e652a"), looks := false }, kinds := [], alts := [], laidByText := true, laidKinds := [.data, .data, .data], laidTests := true, laidLooks := .later }
def PnmrawWritesUptoCardSaid : Prop := Claim7.holds Tryz.pinned (.plain (OpenSpec.upto pnmrawWritesSpec)) pnmrawWritesUptoCard

/-- THE SECOND FORM's CARD OF 'tintypelaw15.PnmBack'. -/
def pnmBackUptoCard : Claim7 := { stood := { row := pnmBackUptoRow, standIns := [], harness := (true, "3c6bd78bdbec9fb6fba6746827900fcf7602fba8e3d1225b13e35c96c22e652a"), looks := false }, kinds := [], alts := [], laidByText := true, laidKinds := [.data, .data, .data], laidTests := true, laidLooks := .later }
def PnmBackUptoCardSaid : Prop := Claim7.holds Tryz.pinned (.plain (OpenSpec.upto pnmBackSpec)) pnmBackUptoCard
end Rows
end Go.Proofs.YthljhebbblhakaaGreatDoor
