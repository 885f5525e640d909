/- A decoder's run: a new ledger, a source over all of a text, the raster's image. -/
import Derived.Test.YtgmgcfjllijhgaaFfE
import Derived.Test.YtgmgcfjllijhgaaWrB
import Derived.Test.YtgmgcfjllijhgaaRas
namespace Go.Proofs.Ytgmgcfjllijhgaa
open Go.RowKit
set_option linter.unusedVariables false
set_option linter.unusedSimpArgs false

section
variable {w w' : World} {b : Nat} {W H W' H' : Int} {a a' : Option Addr} {n c n' c' : Nat} {S : List Nat}
theorem IB.st3 (h : IB w b W H a n c) : IB (st3 w b (.int .i64 W') (.int .i64 H') (.slice a' n' c')) b W' H' a' n' c' := ((Blk.set_ (Blk.set_ (Blk.set_ h 0 _) 1 _) 2 _)).eq_ (by simp [im3])
end
/-- what a run leaves -/
def RunPost (fm : Int) (D : Dec) (x : Led) (w w' : World) (e : Ending) : Prop :=
  ∃ g y, LedAt w' g y ∧ y.Ok ∧ w.heap.size ≤ g ∧ Below w.heap.size w w' ∧
    ((∃ k a : Nat, k ≠ 0 ∧ D.run x = (y, .bad k a) ∧ e = .returned (.tuple #[.agg #[.int .i64 0, .int .i64 0, .slice none 0 0], .agg #[.int .i64 (k : Int), .int .i64 fm, .int .i64 (a : Int)], .pointer (some ⟨g, 0, none⟩)])) ∨
     (∃ (W H : Nat) (l : List UInt8) (d : Nat), D.run x = (y, .img W H l) ∧ e = .returned (.tuple #[.agg #[.int .i64 (W : Int), .int .i64 (H : Int), .slice (some ⟨d, 0, none⟩) l.length l.length], .agg #[.int .i64 0, .int .i64 0, .int .i64 0], .pointer (some ⟨g, 0, none⟩)]) ∧ BytesAt w' (some ⟨d, 0, none⟩) l.length l))
theorem BytesAt.of_blk {w : World} {d : Nat} {l : List UInt8} (h : Blk w d 5 (C8 l).toArray) : BytesAt w (some ⟨d, 0, none⟩) l.length l := by
  refine ⟨rfl, .inr ⟨d, 0, rfl, fun j hj => ?_⟩⟩
  rw [Nat.zero_add, Blk.cell h j]
  simp [C8, List.getElem?_eq_getElem hj]
end Go.Proofs.Ytgmgcfjllijhgaa
