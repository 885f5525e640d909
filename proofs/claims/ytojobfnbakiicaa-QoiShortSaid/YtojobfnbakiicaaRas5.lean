/- awake of chapter 7. -/
import Derived.Test.YtojobfnbakiicaaRas
import Derived.Deep.RegionHeld3
namespace Go.Proofs.Ytojobfnbakiicaa
open Go.RowKit
set_option linter.unusedVariables false
set_option linter.unusedSimpArgs false

section
variable {w : World} {r g b d : Nat} {l : List UInt8} {x y : Led}
end
theorem notTwo {a b c : Nat} (h1 : a ≠ b) (h2 : a ≠ c) : a ∉ [b, c] := by simp [h1, h2]
def W7 : Led := ⟨2, 1, 8, 9, 0, 0, 0, 0, 0⟩
def W7b : Led := ⟨2, 1, 8, 9, 8, 8, 0, 0, 0⟩
def W7c : Led := ⟨2, 1, 8, 9, 8, 8, 1, 0, 0⟩
def W7d : Led := ⟨2, 1, 8, 9, 8, 8, 2, 0, 0⟩
theorem W7.ok : W7.Ok := by constructor <;> decide
theorem W7b.ok : W7b.Ok := by constructor <;> decide
theorem W7c.ok : W7c.Ok := by constructor <;> decide
theorem ew0 : Led.new 2 1 8 9 = W7 := rfl
theorem ew1 : W7.sides ((2 : Nat) : Int) ((1 : Nat) : Int) = (W7, true) := rfl
theorem ew2 : W7.take ((8 : Nat) : Int) = (W7b, true) := rfl
theorem ew3 : W7b.work 1 = (W7c, true) := rfl
theorem ew4 : W7c.work 1 = (W7d, true) := rfl
def red : List UInt8 := [255, 0, 0, 255]
def L7 : List UInt8 := over (List.replicate 8 0) 0 red
theorem L7_len : L7.length = 8 := by decide
theorem L7_cut : ((swapL L7 0 4 4).drop 4).take 4 = [255, 0, 0, 255] := by decide
theorem L7_len2 : (swapL L7 0 4 4).length = 8 := by decide
end Go.Proofs.Ytojobfnbakiicaa
