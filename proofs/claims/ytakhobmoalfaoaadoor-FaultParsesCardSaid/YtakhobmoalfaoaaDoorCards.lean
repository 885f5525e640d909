/-
  DERIVED. GIVEN WITH THE SEED: THE CARDS: each row of YtakhobmoalfaoaaDoorRows.lean that lists a variable, with what it lists TIED to the program's text (the seventh form; the later family's looks); each row that meets fmt, with fmt's text TOLD by the authors' own Lean function (tested against real Go, not proved from fmt's source: count such statements apart). THE CARD IS WHAT COUNTS. Prove the row's statement (the work); the ties are given (YtakhobmoalfaoaaDoorTie.lean); close each card by the builder's one call (the guide's Derived/Test/ToyasCard.lean, 'card_holds'). Laid BY PROGRAM, IN A SANDBOX (cutbox-door.mjs). By AI agents, Wed Nov 11 2026. No macro, syntax, notation, axiom, sorry.
-/
import Derived.Test.YtakhobmoalfaoaaDoorRows
import GoSem.ClaimSeven
namespace Go.Proofs.YtakhobmoalfaoaaDoor
namespace Rows

/-- THE TIED CARD OF 'tintypelaw03.FaultTexts'. -/
def faultTextsCard : Claim7 := { stood := { row := faultTextsRow, standIns := [], harness := (true, "dbe8658a04b465af6299095891a1babfbe4daefd6d8418f497ca0bce5c368d80"), looks := true }, kinds := [], alts := [], laidByText := true, laidKinds := [.data, .data, .data, .sentinel, .sentinel], laidTests := true, laidLooks := .later }
def FaultTextsCardSaid : Prop := Claim7.holds Tryd.pinned (.plain (OpenSpec.ofChange faultTextsSpec)) faultTextsCard

/-- THE TIED CARD OF 'tintypelaw03.FaultParses'. -/
def faultParsesCard : Claim7 := { stood := { row := faultParsesRow, standIns := [], harness := (true, "dbe8658a04b465af6299095891a1babfbe4daefd6d8418f497ca0bce5c368d80"), looks := true }, kinds := [], alts := [], laidByText := true, laidKinds := [.data, .data, .data, .sentinel, .sentinel], laidTests := true, laidLooks := .later }
def FaultParsesCardSaid : Prop := Claim7.holds Tryd.pinned (.plain (OpenSpec.ofChange faultParsesSpec)) faultParsesCard

/-- THE SECOND FORM's CARD OF 'tintypelaw03.FaultTexts'. -/
def faultTextsUptoCard : Claim7 := { stood := { row := faultTextsUptoRow, standIns := [], harness := (true, "dbe8658a04b465af6299095891a1babfbe4daefd6d8418f497ca0bce5c368d80"), looks := true }, kinds := [], alts := [], laidByText := true, laidKinds := [.data, .data, .data, .sentinel, .sentinel], laidTests := true, laidLooks := .later }
def FaultTextsUptoCardSaid : Prop := Claim7.holds Tryd.pinned (.plain (OpenSpec.upto faultTextsSpec)) faultTextsUptoCard

/-- THE SECOND FORM's CARD OF 'tintypelaw03.FaultParses'. -/
def faultParsesUptoCard : Claim7 := { stood := { row := faultParsesUptoRow, standIns := [], harness := (true, "dbe8658a04b465af6299095891a1babfbe4daefd6d8418f497ca0bce5c368d80"), looks := true }, kinds := [], alts := [], laidByText := true, laidKinds := [.data, .data, .data, .sentinel, .sentinel], laidTests := true, laidLooks := .later }
def FaultParsesUptoCardSaid : Prop := Claim7.holds Tryd.pinned (.plain (OpenSpec.upto faultParsesSpec)) faultParsesUptoCard
end Rows
end Go.Proofs.YtakhobmoalfaoaaDoor
