/- A pixel, in whole numbers; what the law keeps. -/
import Derived.Test.YtojobfnbakiicaaRasImg3
import Derived.Test.YtojobfnbakiicaaRasImg5
import Derived.Test.YtojobfnbakiicaaRasImg6
import Derived.Test.YtojobfnbakiicaaRas5
namespace Go.Proofs.Ytojobfnbakiicaa
open Go.RowKit
set_option linter.unusedVariables false
set_option linter.unusedSimpArgs false

theorem list4 {l : List UInt8} (h : l.length = 4) : ∃ a b c d, l = [a, b, c, d] := by
  match l, h with
  | [a, b, c, d], _ => exact ⟨a, b, c, d, rfl⟩
def colV (c0 c1 c2 c3 : UInt8) : Value := .agg #[.int .u8 (c0.toNat : Int), .int .u8 (c1.toNat : Int), .int .u8 (c2.toNat : Int), .int .u8 (c3.toNat : Int)]
/-- two images in their boxes, and their bytes; a colour in its own -/
structure IC (w0 : World) (g k : Nat) (aW aH : Int) (aa : Option Addr) (an ac : Nat) (al : List UInt8) (bW bH : Int) (ba : Option Addr) (bn bc : Nat) (bl : List UInt8) (p0 p1 p2 p3 : Int) (w : World) : Prop where
  A : Blk w g 26 #[.int .i64 aW, .int .i64 aH, .slice aa an ac]
  B : Blk w (g + 1) 26 #[.int .i64 bW, .int .i64 bH, .slice ba bn bc]
  C : CB w k p0 p1 p2 p3
  a0_ : BytesAt w0 aa an al
  b0_ : BytesAt w0 ba bn bl
  below : Below w0.heap.size w0 w
section
variable {w0 w w' : World} {g k : Nat} {aW aH bW bH : Int} {aa ba : Option Addr} {an ac bn bc : Nat} {al bl : List UInt8} {p0 p1 p2 p3 : Int}
theorem IC.next (h : IC w0 g k aW aH aa an ac al bW bH ba bn bc bl p0 p1 p2 p3 w) (hb : Below w.heap.size w w') : IC w0 g k aW aH aa an ac al bW bH ba bn bc bl p0 p1 p2 p3 w' :=
  ⟨Blk.below h.A hb (Blk.lt h.A), Blk.below h.B hb (Blk.lt h.B), Blk.below h.C hb (Blk.lt h.C), h.a0_, h.b0_, below_next h.below hb⟩
theorem IC.drew (h : IC w0 g k aW aH aa an ac al bW bH ba bn bc bl p0 p1 p2 p3 w) : IC w0 g k aW aH aa an ac al bW bH ba bn bc bl p0 p1 p2 p3 w.drew := h.next (Below.refl _ _).drew
theorem IC.a (h : IC w0 g k aW aH aa an ac al bW bH ba bn bc bl p0 p1 p2 p3 w) : BytesAt w aa an al := h.a0_.below h.below
theorem IC.b (h : IC w0 g k aW aH aa an ac al bW bH ba bn bc bl p0 p1 p2 p3 w) : BytesAt w ba bn bl := h.b0_.below h.below
theorem IC.all (h : IC w0 g k aW aH aa an ac al bW bH ba bn bc bl p0 p1 p2 p3 w) :
    w.cell? ⟨g, 0, none⟩ = some (.int .i64 aW) ∧ w.cell? ⟨g, 1, none⟩ = some (.int .i64 aH) ∧ w.cell? ⟨g, 2, none⟩ = some (.slice aa an ac)
    ∧ w.cell? ⟨g + 1, 0, none⟩ = some (.int .i64 bW) ∧ w.cell? ⟨g + 1, 1, none⟩ = some (.int .i64 bH) ∧ w.cell? ⟨g + 1, 2, none⟩ = some (.slice ba bn bc)
    ∧ w.cell? ⟨k, 0, none⟩ = some (.int .u8 p0) ∧ w.cell? ⟨k, 1, none⟩ = some (.int .u8 p1) ∧ w.cell? ⟨k, 2, none⟩ = some (.int .u8 p2) ∧ w.cell? ⟨k, 3, none⟩ = some (.int .u8 p3)
    ∧ IC w0 g k aW aH aa an ac al bW bH ba bn bc bl p0 p1 p2 p3 w :=
  ⟨Blk.cell h.A 0, Blk.cell h.A 1, Blk.cell h.A 2, Blk.cell h.B 0, Blk.cell h.B 1, Blk.cell h.B 2, Blk.cell h.C 0, Blk.cell h.C 1, Blk.cell h.C 2, Blk.cell h.C 3, h⟩
end
theorem right_bool {W H : Int} {b : Bool} {n : Nat} (hb : decide (RightP W H n) = b) {a : Option Addr} {c : Nat} (w : World) : Calls Try.prog 8 #[.agg #[.int .i64 W, .int .i64 H, .slice a n c]] w fun e w' => e = .returned (.bool b) ∧ Below w.heap.size w w' := by
  subst hb; exact right_any W H a n c w
theorem same_self (W H : Int) (l : List UInt8) : decide (SameP W H W H l l) = true := by simp [SameP]
end Go.Proofs.Ytojobfnbakiicaa
