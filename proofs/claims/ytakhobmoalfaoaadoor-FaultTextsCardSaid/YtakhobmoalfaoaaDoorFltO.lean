/- fault: a fault that comes in is three numbers; FaultTexts by what is laid. -/
import Derived.Test.YtakhobmoalfaoaaDoorFltL
import Derived.OpenShut
import Derived.Lib.SmallJoins
namespace Go.Proofs.YtakhobmoalfaoaaDoor
open Go.ChangeShapes Go.WideShapes Go.Deep Go.RowKit Go.Joins
set_option linter.unusedVariables false

section
variable {H : Type} {enc : TypeId × Value → H} {w : World} {base : Nat} {spare : Nat → Bool} {held : Bool}
theorem faultv_of {r : Reach} {b0 : Nat} {v : Value} {d : DataW H} {p : List MemPlace} (hv : Value.okWide Tryd.prog w r b0 23 v) (h : DataW.Trod enc Tryd.prog w base spare held 23 v d p) :
    ∃ a b c : Int, v = .agg #[.int .i64 a, .int .i64 b, .int .i64 c] := by
  obtain ⟨v0, v1, v2, y0, y1, y2, n, rfl, _, _, t0, t1, t2⟩ := open_agg3 Tryd.underlying23 (by kernel_rfl) (by kernel_rfl) hv h
  obtain ⟨k0, e0, _, f0⟩ := DataW.trod_int Tryd.underlying3 t0
  obtain ⟨k1, e1, _, f1⟩ := DataW.trod_int Tryd.underlying3 t1
  obtain ⟨k2, e2, _, f2⟩ := DataW.trod_int Tryd.underlying3 t2
  obtain rfl : v0 = .int .i64 k0 := by simpa using e0
  obtain rfl : v1 = .int .i64 k1 := by simpa using e1
  obtain rfl : v2 = .int .i64 k2 := by simpa using e2
  exact ⟨k0, k1, k2, rfl⟩
end
theorem faultTexts_law (w : World) (hL : laidMetH Tryd.prog laidL5 w) (k f a : Int) : Calls Tryd.prog 3 #[.agg #[.int .i64 k, .int .i64 f, .int .i64 a]] w fun e w' => e = .returned (.bool true) ∧ Below w.heap.size w w' := faultTexts_said (libW_of_laid hL)
end Go.Proofs.YtakhobmoalfaoaaDoor
