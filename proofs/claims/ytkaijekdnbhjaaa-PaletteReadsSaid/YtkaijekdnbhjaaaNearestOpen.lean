/- The arguments of PaletteNearest opened. -/
import Derived.Test.YtkaijekdnbhjaaaOpen
import Derived.Test.YtkaijekdnbhjaaaNearest
namespace Go.Proofs.Ytkaijekdnbhjaaa
open Go.ChangeShapes Go.WideShapes Go.Deep Go.RowKit Go.Joins
set_option linter.unusedVariables false
section
variable {H : Type} {enc : TypeId × Value → H} {w : World} {base : Nat} {spare : Nat → Bool} {held : Bool}

theorem cols_of {a : Option Addr} {len cap : Nat} {d : DataW H} {p : List MemPlace} (hsp : ∀ b, spare b = true) (h : DataW.Trod enc Try.prog w base spare held 22 (.slice a len cap) d p) : ∃ cl, SliceCols w a len cl := by
  rcases open_structs Try.underlying22 Try.underlying34 (by kernel_rfl) (by kernel_rfl) (by decide) hsp h with h0 | ⟨b, off, rfl, hl, hm, hi⟩
  · exact ⟨[], .inl h0⟩
  · have key : ∀ i, ∃ c : Col, i < len → c.ok ∧ w.cell? ⟨b, off + i * 4, none⟩ = some (.int .u8 c.r) ∧ w.cell? ⟨b, off + i * 4 + 1, none⟩ = some (.int .u8 c.g) ∧ w.cell? ⟨b, off + i * 4 + 2, none⟩ = some (.int .u8 c.b) ∧ w.cell? ⟨b, off + i * 4 + 3, none⟩ = some (.int .u8 c.a) := by
      intro i
      by_cases hil : i < len
      · obtain ⟨n, hn⟩ := hi i hil
        obtain ⟨v0, y0, c0, t0⟩ := hn 0 _ rfl
        obtain ⟨v1, y1, c1, t1⟩ := hn 1 _ rfl
        obtain ⟨v2, y2, c2, t2⟩ := hn 2 _ rfl
        obtain ⟨v3, y3, c3, t3⟩ := hn 3 _ rfl
        obtain ⟨k0, e0, _, f0⟩ := DataW.trod_int Try.underlying5 t0
        obtain ⟨k1, e1, _, f1⟩ := DataW.trod_int Try.underlying5 t1
        obtain ⟨k2, e2, _, f2⟩ := DataW.trod_int Try.underlying5 t2
        obtain ⟨k3, e3, _, f3⟩ := DataW.trod_int Try.underlying5 t3
        obtain rfl : v0 = .int .u8 k0 := by simpa using e0
        obtain rfl : v1 = .int .u8 k1 := by simpa using e1
        obtain rfl : v2 = .int .u8 k2 := by simpa using e2
        obtain rfl : v3 = .int .u8 k3 := by simpa using e3
        exact ⟨⟨k0, k1, k2, k3⟩, fun _ => ⟨⟨bounds_u8 f0, bounds_u8 f1, bounds_u8 f2, bounds_u8 f3⟩, c0, c1, c2, c3⟩⟩
      · exact ⟨nocol, fun h => absurd h hil⟩
    obtain ⟨f, hf⟩ := Classical.axiomOfChoice key
    have hg : ∀ i, i < len → ((List.range len).map f).getD i nocol = f i := fun i hi => by
      simp [List.getD_eq_getElem?_getD, hi]
    refine ⟨(List.range len).map f, .inr ⟨b, off, rfl, ⟨by simp, fun i hi => ?_, fun i hi => ?_, fun i hi => ?_, fun i hi => ?_, fun i hi => ?_⟩⟩⟩
    all_goals rw [hg i hi]
    · exact (hf i hi).1
    · exact (hf i hi).2.1
    · exact (hf i hi).2.2.1
    · exact (hf i hi).2.2.2.1
    · exact (hf i hi).2.2.2.2

set_option maxRecDepth 100000 in
theorem col_of {r : Reach} {b0 : Nat} {v : Value} {d : DataW H} {p : List MemPlace} (hv : Value.okWide Try.prog w r b0 34 v) (h : DataW.Trod enc Try.prog w base spare held 34 v d p) :
    ∃ c : Col, c.ok ∧ v = .agg #[.int .u8 c.r, .int .u8 c.g, .int .u8 c.b, .int .u8 c.a] := by
  obtain ⟨v0, v1, v2, v3, y0, y1, y2, y3, n, rfl, _, _, t0, t1, t2, t3⟩ := open_agg4 Try.underlying34 (by kernel_rfl) (by kernel_rfl) hv h
  obtain ⟨k0, e0, _, f0⟩ := DataW.trod_int Try.underlying5 t0
  obtain ⟨k1, e1, _, f1⟩ := DataW.trod_int Try.underlying5 t1
  obtain ⟨k2, e2, _, f2⟩ := DataW.trod_int Try.underlying5 t2
  obtain ⟨k3, e3, _, f3⟩ := DataW.trod_int Try.underlying5 t3
  obtain rfl : v0 = .int .u8 k0 := by simpa using e0
  obtain rfl : v1 = .int .u8 k1 := by simpa using e1
  obtain rfl : v2 = .int .u8 k2 := by simpa using e2
  obtain rfl : v3 = .int .u8 k3 := by simpa using e3
  exact ⟨⟨k0, k1, k2, k3⟩, ⟨bounds_u8 f0, bounds_u8 f1, bounds_u8 f2, bounds_u8 f3⟩, rfl⟩
end
end Go.Proofs.Ytkaijekdnbhjaaa
