/- awake of chapter 12. -/
import Derived.Test.YtegoakfhadmblaaPnmLaw
import Derived.Test.YtegoakfhadmblaaPnmSize
namespace Go.Proofs.Ytegoakfhadmblaa
open Go.RowKit
set_option linter.unusedVariables false
set_option linter.unusedSimpArgs false

def T12 : Led := ⟨0, 0, 0, 10000, 0, 0, 0, 0, 0⟩
theorem T12.ok : T12.Ok := by constructor <;> decide
theorem T12_new : Led.new 0 0 0 10000 = T12 := rfl
def A12 : Led := ⟨0, 0, 0, 100, 0, 0, 0, 0, 0⟩
theorem A12.ok : A12.Ok := by constructor <;> decide
theorem A12_new : Led.new 0 0 0 100 = A12 := rfl
def aw12 : ByteArray := ⟨#[80, 53, 32, 50, 32, 51, 32, 50, 53, 53, 10]⟩
deriving instance DecidableEq for HeadR
theorem aw12_head : headAt (nats aw12) = ⟨5, 2, 3, 255, 11, 0, 0⟩ := by decide +kernel
theorem awRead {w1 : World} {p g : Nat} (h : SrcAt w1 p g aw12 0 aw12.size 0) (hl : LedAt w1 g A12) : Calls Try.prog 16 #[.pointer (some ⟨p, 0, none⟩)] w1 fun e w' => e = .returned (.tuple #[.agg #[.int .i64 5, .int .i64 2, .int .i64 3, .int .i64 255, .int .i64 11], .agg #[.int .i64 0, .int .i64 0, .int .i64 0]]) ∧ Turn [p, g] w1 w' := by
  rcases pread_cases h hl (by decide) rfl A12.ok (by decide) with ⟨kd, pl, e, k0, _, _, _⟩ | ⟨K, W, H, M, n, e, _, _, _, _, _, hc⟩
  · rw [aw12_head] at e
    have := congrArg HeadR.Kind e
    exact absurd this.symm k0
  · rw [aw12_head] at e
    cases e
    refine hc.mono ?_
    rintro e w' ⟨rfl, _, q⟩
    exact ⟨rfl, q⟩
theorem awSize (w : World) : Calls Try.prog 19 #[.agg #[.int .i64 5, .int .i64 2, .int .i64 3, .int .i64 255, .int .i64 11]] w fun e w' => e = .returned (.tuple #[.int .i64 6, .bool true]) ∧ Below w.heap.size w w' :=
  psize_5n (W := 2) (H := 3) (M := 255) (z := 6) (A := 11) (by decide) (by decide) (by decide) (by decide) (by decide)
set_option maxRecDepth 100000 in
theorem awake12_any (w : World) :
    Calls Try.prog 13 #[] w fun e w' => e = .returned (.bool true) ∧ Below w.heap.size w w' := by
  go_enter Try.func13, Try.ntmps13
  go_wp2_with (first
    | (go_at_call 15; refine (ledNew_at A12_new _).mono ?_; rintro e w0 ⟨g, rfl, hgB, h0, b0⟩)
    | (go_at_call 14; refine (srcNew_any g aw12 _).mono ?_; rintro e w1 ⟨p, rfl, hp, h1, b1⟩; have l1 := Blk.below h0 b1 (Blk.lt h0); have bb1 := below_next b0 b1)
    | (go_at_call 16; refine (awRead h1 l1).mono ?_; rintro e w2 ⟨rfl, t2⟩)
    | (go_at_call 19; refine (awSize _).mono ?_; rintro e w3 ⟨rfl, b3⟩; have bh : Blk w3 w2.heap.size 32 (hd 5 2 3 255 11) := Blk.below (Blk.alloc (Blk.new w2 _ _) _) b3 (by simp; omega); have bf : FL w3 (w2.heap.size + 1) 0 0 0 := Blk.below (Blk.new_at (w2.alloc _) _ _ (by simp)) b3 (by simp); have r0 : w3.cell? ⟨w2.heap.size, 0, none⟩ = some (.int .i64 5) := Blk.cell bh 0; have r1 : w3.cell? ⟨w2.heap.size, 1, none⟩ = some (.int .i64 2) := Blk.cell bh 1; have r2 : w3.cell? ⟨w2.heap.size, 2, none⟩ = some (.int .i64 3) := Blk.cell bh 2; have r3 : w3.cell? ⟨w2.heap.size, 3, none⟩ = some (.int .i64 255) := Blk.cell bh 3; have r4 : w3.cell? ⟨w2.heap.size, 4, none⟩ = some (.int .i64 11) := Blk.cell bh 4; have e0 := FL.c0 bf; have e1 := FL.c1 bf; have e2 := FL.c2 bf))
  go_ret
  have hz0 := b0.size
  have z2 := Turn.belowNext bb1 t2 (by simp; omega) bb1.size
  have z3 := (z2.alloc z2.size (.cells #[.int .i64 5, .int .i64 2, .int .i64 3, .int .i64 255, .int .i64 11] 32))
  have z4 := (z3.alloc z3.size (.cells #[.int .i64 0, .int .i64 0, .int .i64 0] 34))
  exact ⟨rfl, below_next z4 b3⟩
end Go.Proofs.Ytegoakfhadmblaa
