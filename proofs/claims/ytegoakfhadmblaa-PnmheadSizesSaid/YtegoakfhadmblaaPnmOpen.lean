/- Arguments opened: a head by value. -/
import Derived.Test.YtegoakfhadmblaaOpen
namespace Go.Proofs.Ytegoakfhadmblaa
open Go.ChangeShapes Go.WideShapes Go.Deep Go.RowKit Go.Joins
set_option linter.unusedVariables false
section
variable {H : Type} {enc : TypeId × Value → H} {P : Program} {w : World} {base : Nat} {spare : Nat → Bool} {held : Bool}

/-- a struct of one-cell fields by value: each field's reading -/
theorem trod_fields {t : TypeId} {fs : Array Field} {cs : List Value} {x : DataW H × List MemPlace} {fuel : Nat} (hs : P.underlying t = some (.struct fs)) (hone : oneCellFields P fs = true) (h : DataW.trod enc P w base spare held fuel t cs = some x) :
    ∃ n, ∀ (j : Nat) (f : Field), fs[j]? = some f → ∃ y, DataW.trod enc P w base spare held n f.type ((cs.drop j).take 1) = some y := by
  obtain ⟨ys, n', hn', hy, hlen, hyl, hf'⟩ := DataW.trod_struct hs h
  refine ⟨n', fun j f hj => ?_⟩
  obtain ⟨ho, hk⟩ := hone_of hone j f hj
  have hjl : j < fs.size := (Array.getElem?_eq_some_iff.1 hj).1
  have h1 := hf' j f hj
  rw [ho, hk] at h1
  have hys : ys[j]? = some (ys[j]'(by omega)) := List.getElem?_eq_getElem (by omega)
  exact ⟨_, h1.trans hys⟩
theorem array5 {α : Type} {cs : Array α} (h : cs.size = 5) : ∃ c0 c1 c2 c3 c4, cs = #[c0, c1, c2, c3, c4] := by
  obtain ⟨l⟩ := cs
  match l, h with
  | [c0, c1, c2, c3, c4], _ => exact ⟨c0, c1, c2, c3, c4, rfl⟩
def fits5 (z : Int) : Prop := -9223372036854775808 ≤ z ∧ z ≤ 9223372036854775807
set_option maxRecDepth 100000 in
theorem head_of {r : Reach} {b0 : Nat} {v : Value} {d : DataW H} {p : List MemPlace} (hv : Value.okWide Try.prog w r b0 32 v) (h : DataW.Trod enc Try.prog w base spare held 32 v d p) :
    ∃ a b c e f : Int, (fits5 a ∧ fits5 b ∧ fits5 c ∧ fits5 e ∧ fits5 f) ∧ v = .agg #[.int .i64 a, .int .i64 b, .int .i64 c, .int .i64 e, .int .i64 f] := by
  obtain ⟨cs, rfl, hsz⟩ := okWide_struct Try.underlying32 hv
  obtain ⟨v0, v1, v2, v3, v4, rfl⟩ := array5 (hsz.trans (by kernel_rfl))
  obtain ⟨fuel, hf⟩ := h
  obtain ⟨n, hn⟩ := trod_fields Try.underlying32 (by kernel_rfl) hf
  obtain ⟨y0, t0⟩ := hn 0 _ rfl
  obtain ⟨y1, t1⟩ := hn 1 _ rfl
  obtain ⟨y2, t2⟩ := hn 2 _ rfl
  obtain ⟨y3, t3⟩ := hn 3 _ rfl
  obtain ⟨y4, t4⟩ := hn 4 _ rfl
  obtain ⟨k0, e0, _, f0⟩ := DataW.trod_int Try.underlying3 t0
  obtain ⟨k1, e1, _, f1⟩ := DataW.trod_int Try.underlying3 t1
  obtain ⟨k2, e2, _, f2⟩ := DataW.trod_int Try.underlying3 t2
  obtain ⟨k3, e3, _, f3⟩ := DataW.trod_int Try.underlying3 t3
  obtain ⟨k4, e4, _, f4⟩ := DataW.trod_int Try.underlying3 t4
  obtain rfl : v0 = .int .i64 k0 := by simpa [Value.cells] using e0
  obtain rfl : v1 = .int .i64 k1 := by simpa [Value.cells] using e1
  obtain rfl : v2 = .int .i64 k2 := by simpa [Value.cells] using e2
  obtain rfl : v3 = .int .i64 k3 := by simpa [Value.cells] using e3
  obtain rfl : v4 = .int .i64 k4 := by simpa [Value.cells] using e4
  exact ⟨k0, k1, k2, k3, k4, ⟨bounds_i64 f0, bounds_i64 f1, bounds_i64 f2, bounds_i64 f3, bounds_i64 f4⟩, rfl⟩
end
end Go.Proofs.Ytegoakfhadmblaa
