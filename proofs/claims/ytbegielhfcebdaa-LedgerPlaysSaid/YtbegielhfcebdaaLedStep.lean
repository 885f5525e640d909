/- Plain: one call of a ledger by its kind. -/
import Derived.Test.YtbegielhfcebdaaLedLaw
namespace Go.Proofs.Ytbegielhfcebdaa
set_option linter.unusedVariables false
def Led.step (x : Led) (k n m : Int) : Led := if k = 1 then (x.sides n m).1 else if k = 2 then (x.take n).1 else if k = 3 then (x.give n).1 else if k = 4 then (x.work n).1 else x
theorem Led.Ok.step {x : Led} (h : x.Ok) (k n m : Int) : (x.step k n m).Ok := by
  unfold Led.step
  split
  · exact h.sides _ _
  · split
    · exact h.take _
    · split
      · exact h.give _
      · split
        · exact h.work _
        · exact h
theorem Led.step_keeps {x : Led} (h : x.reason ≠ 0) (k n m : Int) : (x.step k n m).reason = x.reason ∧ (x.step k n m).asked = x.asked := by
  unfold Led.step
  split
  · unfold Led.sides; rw [if_pos h]; exact ⟨rfl, rfl⟩
  · split
    · unfold Led.take; rw [if_pos h]; exact ⟨rfl, rfl⟩
    · split
      · unfold Led.give; split <;> exact ⟨rfl, rfl⟩
      · split
        · unfold Led.work; rw [if_pos h]; exact ⟨rfl, rfl⟩
        · exact ⟨rfl, rfl⟩
theorem Led.step1 {x : Led} (n m : Int) : x.step 1 n m = (x.sides n m).1 := rfl
theorem Led.step2 {x : Led} (n m : Int) : x.step 2 n m = (x.take n).1 := rfl
theorem Led.step3 {x : Led} (n m : Int) : x.step 3 n m = (x.give n).1 := rfl
theorem Led.step4 {x : Led} (n m : Int) : x.step 4 n m = (x.work n).1 := rfl
theorem Led.step0 {x : Led} {k : Int} (n m : Int) (h1 : k ≠ 1) (h2 : k ≠ 2) (h3 : k ≠ 3) (h4 : k ≠ 4) : x.step k n m = x := by
  unfold Led.step
  rw [if_neg h1, if_neg h2, if_neg h3, if_neg h4]
end Go.Proofs.Ytbegielhfcebdaa
