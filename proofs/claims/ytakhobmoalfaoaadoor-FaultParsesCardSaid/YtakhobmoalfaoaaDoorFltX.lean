/- fault: FaultParses of every text, by what is laid. -/
import Derived.Test.YtakhobmoalfaoaaDoorFltQ
import Derived.Test.YtakhobmoalfaoaaDoorFltT
import Derived.Test.YtakhobmoalfaoaaDoorFltU
import Derived.Test.YtakhobmoalfaoaaDoorFltL
namespace Go.Proofs.YtakhobmoalfaoaaDoor
open Go.RowKit
set_option linter.unusedVariables false
theorem faultParses_lib {w : World} (hL : LibW w) (s : ByteArray) : Calls Tryd.prog 4 #[.string s] w fun e w' => e = .returned (.bool true) ∧ Below w.heap.size w w' := by
  by_cases h : 100 < s.size
  · exact faultParses_long hL h
  · have h1 : s.size ≤ 100 := by omega
    have hP := fun w (h : LibW w) => parseC (s := s) (by omega) h
    have hR := fun w => refParseC (s := s) (by omega) w
    rw [refP_parseP] at hR
    cases hp : parseP s with
    | none =>
      rw [hp] at hP hR
      exact faultParses_none hL h1 hP hR
    | some x =>
      obtain ⟨k, f, n⟩ := x
      rw [hp] at hP hR
      exact faultParses_some hL h1 hP hR
theorem faultParses_law (w : World) (hL : laidMetH Tryd.prog laidL5 w) (s : ByteArray) (hs : s.size ≤ maxLen) : Calls Tryd.prog 4 #[.string s] w fun e w' => e = .returned (.bool true) ∧ Below w.heap.size w w' := faultParses_lib (libW_of_laid hL) s
end Go.Proofs.YtakhobmoalfaoaaDoor
