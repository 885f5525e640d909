/- The document's Be and Bad. The document's check of a farbfeld head, and Sides. The document's Sides of a farbfeld file. -/
import Derived.Test.YtgmgcfjllijhgaaDecLaw
import Derived.Test.YtgmgcfjllijhgaaTake
import Derived.Test.YtgmgcfjllijhgaaFfD
namespace Go.Proofs.Ytgmgcfjllijhgaa
open Go.RowKit
set_option linter.unusedVariables false
set_option linter.unusedSimpArgs false

/-- a fault of the document -/
def riBad (k a : Int) : Array Value := #[.int .i64 0, .int .i64 0, .slice none 0 0, .int .i64 k, .int .i64 a]
/-- the box of a document's image -/
def ri5 (W H : Int) (v : Value) (k a : Int) : Array Value := #[.int .i64 W, .int .i64 H, v, .int .i64 k, .int .i64 a]
def st5 (w : World) (b : Nat) (u0 u1 u2 u3 u4 : Value) : World := ((((w.setCell ⟨b, 0, none⟩ u0).setCell ⟨b, 1, none⟩ u1).setCell ⟨b, 2, none⟩ u2).setCell ⟨b, 3, none⟩ u3).setCell ⟨b, 4, none⟩ u4
section
variable {w w' a : World} {b g : Nat} {W H W' H' k i k' i' : Int} {t : TypeId} {cs : Array Value} {v v' u0 u1 u2 u3 u4 : Value} {S : List Nat} {B : Nat}
theorem Blk.st5 (h : Blk w g t cs) (hb : g ≠ b) : Blk (st5 w b u0 u1 u2 u3 u4) g t cs := Blk.far (Blk.far (Blk.far (Blk.far (Blk.far h (p := ⟨b, 0, none⟩) hb _) (p := ⟨b, 1, none⟩) hb _) (p := ⟨b, 2, none⟩) hb _) (p := ⟨b, 3, none⟩) hb _) (p := ⟨b, 4, none⟩) hb _
theorem Below.st5 (h : Below B a w) (hb : B ≤ b) : Below B a (st5 w b u0 u1 u2 u3 u4) := below_set (below_set (below_set (below_set (below_set h hb) hb) hb) hb) hb
end
end Go.Proofs.Ytgmgcfjllijhgaa
namespace Go.Proofs.Ytgmgcfjllijhgaa
open Go.RowKit
set_option linter.unusedVariables false
set_option linter.unusedSimpArgs false

def riTold (o : Option (Nat × Nat)) : Value := match o with | none => .agg #[.int .i64 0, .int .i64 0, .slice none 0 0, .int .i64 0, .int .i64 0] | some f => .agg #[.int .i64 0, .int .i64 0, .slice none 0 0, .int .i64 (f.1 : Int), .int .i64 (f.2 : Int)]
end Go.Proofs.Ytgmgcfjllijhgaa
namespace Go.Proofs.Ytgmgcfjllijhgaa
open Go.RowKit
set_option linter.unusedVariables false
set_option linter.unusedSimpArgs false

theorem ffHead_ne {s : ByteArray} {f : Nat × Nat} (h : ffHead s = some f) : f.1 ≠ 0 ∧ f.1 ≠ 4 := by
  have hk := ffHead_is s
  rw [h] at hk
  cases hk <;> simp
theorem ffHead_sides {s : ByteArray} (h : ffHead s = none) : 1 ≤ beN s 8 4 ∧ beN s 8 4 ≤ 16384 ∧ 1 ≤ beN s 12 4 ∧ beN s 12 4 ≤ 16384 := by
  have hk := ffHead_is s
  rw [h] at hk
  cases hk with
  | ok o a b c d => exact ⟨a, b, c, d⟩
end Go.Proofs.Ytgmgcfjllijhgaa
