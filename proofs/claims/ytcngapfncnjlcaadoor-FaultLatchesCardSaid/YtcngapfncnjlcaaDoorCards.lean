/-
  DERIVED. GIVEN WITH THE SEED: THE CARDS: each row of YtcngapfncnjlcaaDoorRows.lean that lists a variable, with what it lists TIED to the program's text (the seventh form; the later family's looks); each row that meets fmt, with fmt's text TOLD by the authors' own Lean function (tested against real Go, not proved from fmt's source: count such statements apart). THE CARD IS WHAT COUNTS. Prove the row's statement (the work); the ties are given (YtcngapfncnjlcaaDoorTie.lean); close each card by the builder's one call (the guide's Derived/Test/ToyasCard.lean, 'card_holds'). Laid BY PROGRAM, IN A SANDBOX (cutbox-door.mjs). By AI agents, Wed Nov 11 2026. No macro, syntax, notation, axiom, sorry.
-/
import Derived.Test.YtcngapfncnjlcaaDoorRows
import GoSem.ClaimSeven
namespace Go.Proofs.YtcngapfncnjlcaaDoor
namespace Rows

/-- THE TIED CARD OF 'tintypelaw03.FaultLatches'. -/
def faultLatchesCard : Claim7 := { stood := { row := faultLatchesRow, standIns := [], harness := (true, "af3019a647194fcbed0c14880ed2ab220ce6b05c4188a245eef94ae7be006582"), looks := false }, kinds := [], alts := [], laidByText := true, laidKinds := [.data, .data, .data], laidTests := true, laidLooks := .later }
def FaultLatchesCardSaid : Prop := Claim7.holds Tryd.pinned (.plain (OpenSpec.ofChange faultLatchesSpec)) faultLatchesCard

/-- THE SECOND FORM's CARD OF 'tintypelaw03.FaultLatches'. -/
def faultLatchesUptoCard : Claim7 := { stood := { row := faultLatchesUptoRow, standIns := [], harness := (true, "af3019a647194fcbed0c14880ed2ab220ce6b05c4188a245eef94ae7be006582"), looks := false }, kinds := [], alts := [], laidByText := true, laidKinds := [.data, .data, .data], laidTests := true, laidLooks := .later }
def FaultLatchesUptoCardSaid : Prop := Claim7.holds Tryd.pinned (.plain (OpenSpec.upto faultLatchesSpec)) faultLatchesUptoCard
end Rows
end Go.Proofs.YtcngapfncnjlcaaDoor
