/- A budget of any value. -/
import Derived.Test.YtgmgcfjllijhgaaGreatVPnmY
namespace Go.Proofs.YtgmgcfjllijhgaaGreat
open Go.ChangeShapes Go.WideShapes Go.Deep Go.RowKit Go.Joins
set_option linter.unusedVariables false

section
variable {H : Type} {enc : TypeId × Value → H} {w : World} {base : Nat} {spare : Nat → Bool} {held : Bool}

set_option maxRecDepth 100000 in
theorem budget_of {r : Reach} {b0 : Nat} {v : Value} {d : DataW H} {p : List MemPlace} (hv : Value.okWide Tryz.prog w r b0 47 v) (h : DataW.Trod enc Tryz.prog w base spare held 47 v d p) :
    ∃ a b c d : Int, (fits a ∧ fits b ∧ fits c ∧ fits d) ∧ v = .agg #[.int .i64 a, .int .i64 b, .int .i64 c, .int .i64 d] := by
  obtain ⟨v0, v1, v2, v3, y0, y1, y2, y3, n, rfl, _, _, t0, t1, t2, t3⟩ := open_agg4 Tryz.underlying47 (by kernel_rfl) (by kernel_rfl) hv h
  obtain ⟨k0, e0, _, f0⟩ := DataW.trod_int Tryz.underlying3 t0
  obtain ⟨k1, e1, _, f1⟩ := DataW.trod_int Tryz.underlying3 t1
  obtain ⟨k2, e2, _, f2⟩ := DataW.trod_int Tryz.underlying3 t2
  obtain ⟨k3, e3, _, f3⟩ := DataW.trod_int Tryz.underlying3 t3
  obtain rfl : v0 = .int .i64 k0 := by simpa using e0
  obtain rfl : v1 = .int .i64 k1 := by simpa using e1
  obtain rfl : v2 = .int .i64 k2 := by simpa using e2
  obtain rfl : v3 = .int .i64 k3 := by simpa using e3
  exact ⟨k0, k1, k2, k3, ⟨bounds_i64 f0, bounds_i64 f1, bounds_i64 f2, bounds_i64 f3⟩, rfl⟩
end
end Go.Proofs.YtgmgcfjllijhgaaGreat
