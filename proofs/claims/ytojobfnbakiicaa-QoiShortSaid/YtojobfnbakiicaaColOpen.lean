/- An argument of the type Color, opened. -/
import Derived.Test.YtojobfnbakiicaaOpen
import Derived.Test.YtojobfnbakiicaaNearLaw
namespace Go.Proofs.Ytojobfnbakiicaa
open Go.ChangeShapes Go.WideShapes Go.Deep Go.RowKit Go.Joins
set_option linter.unusedVariables false
section
variable {H : Type} {enc : TypeId × Value → H} {w : World} {base : Nat} {spare : Nat → Bool} {held : Bool}

set_option maxRecDepth 100000 in
theorem col_of {r : Reach} {b0 : Nat} {v : Value} {d : DataW H} {p : List MemPlace} (hv : Value.okWide Try.prog w r b0 23 v) (h : DataW.Trod enc Try.prog w base spare held 23 v d p) :
    ∃ c : Col, c.ok ∧ v = .agg #[.int .u8 c.r, .int .u8 c.g, .int .u8 c.b, .int .u8 c.a] := by
  obtain ⟨v0, v1, v2, v3, y0, y1, y2, y3, n, rfl, _, _, t0, t1, t2, t3⟩ := open_agg4 Try.underlying23 (by kernel_rfl) (by kernel_rfl) hv h
  obtain ⟨k0, e0, _, f0⟩ := DataW.trod_int Try.underlying5 t0
  obtain ⟨k1, e1, _, f1⟩ := DataW.trod_int Try.underlying5 t1
  obtain ⟨k2, e2, _, f2⟩ := DataW.trod_int Try.underlying5 t2
  obtain ⟨k3, e3, _, f3⟩ := DataW.trod_int Try.underlying5 t3
  obtain rfl : v0 = .int .u8 k0 := by simpa using e0
  obtain rfl : v1 = .int .u8 k1 := by simpa using e1
  obtain rfl : v2 = .int .u8 k2 := by simpa using e2
  obtain rfl : v3 = .int .u8 k3 := by simpa using e3
  exact ⟨⟨k0, k1, k2, k3⟩, ⟨bounds_u8 f0, bounds_u8 f1, bounds_u8 f2, bounds_u8 f3⟩, rfl⟩
end
end Go.Proofs.Ytojobfnbakiicaa
