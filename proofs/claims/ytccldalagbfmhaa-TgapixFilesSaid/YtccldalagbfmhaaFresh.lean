/- A fresh ledger of so many bytes: its first Take. -/
import Derived.Test.YtccldalagbfmhaaSync
import Derived.OpenShut
namespace Go.Proofs.Ytccldalagbfmhaa
set_option linter.unusedVariables false

theorem take_fresh_yes {B n : Int} (h0 : 0 ≤ n) (h : n ≤ B) : (Led.new 0 0 B 0).take n = (⟨0, 0, nought B, 0, n, n, 0, 0, 0⟩, true) := by
  have hB : nought B = B := if_neg (by omega)
  unfold Led.take Led.new
  simp only [ne_eq, not_true_eq_false, if_false, hB, Int.sub_zero, Int.zero_add]
  rw [if_neg (by omega), show nought 0 = 0 from rfl]
  simp only [Prod.mk.injEq, Led.mk.injEq, and_true, true_and]
  split <;> omega
theorem take_fresh_no {B n : Int} (h0 : 0 ≤ n) (h : nought B < n) : (Led.new 0 0 B 0).take n = ((Led.new 0 0 B 0).refused 2 n, false) := by
  unfold Led.take
  rw [if_neg (by simp [Led.new]), if_pos (by simp [Led.new]; omega)]
theorem nought_lt {B n : Int} (h0 : 0 < n) (h : B < n) : nought B < n := by unfold nought; split <;> omega
end Go.Proofs.Ytccldalagbfmhaa
