/- strings.HasPrefix. -/
import Derived.Test.YtccldalagbfmhaaGreatRas
namespace Go.Proofs.YtccldalagbfmhaaGreat
open Go.RowKit
set_option linter.unusedVariables false
set_option linter.unusedSimpArgs false

theorem hasPrefix0 (s p : ByteArray) (w : World) (hp : p.size ≤ 1000) : Calls Tryz.prog 147 #[.string s, .string p] w fun e w' => e = .returned (.bool (decide (p.size ≤ s.size ∧ s.extract 0 p.size = p))) ∧ w = w' := by
  by_cases h8 : s.size < p.size
  · have hI : (s.size : Int) < (p.size : Int) := by omega
    rw [decide_eq_false (by omega)]
    go_enter Tryz.func147, Tryz.ntmps147
    go_wp2_with fail
    go_ret
    exact ⟨rfl, rfl⟩
  · have hI : ¬ (s.size : Int) < (p.size : Int) := by omega
    have hJ : (p.size : Int) ≤ (s.size : Int) := by omega
    have e : decide (p.size ≤ s.size ∧ s.extract 0 p.size = p) = decide (s.extract 0 p.size = p) := decide_eq_decide.2 ⟨fun h => h.2, fun h => ⟨by omega, h⟩⟩
    rw [e, ← textEq]
    go_enter Tryz.func147, Tryz.ntmps147
    go_wp2_with fail
    go_ret
    exact ⟨rfl, rfl⟩
theorem hasPrefix {s p : ByteArray} {b : Bool} (hb : decide (p.size ≤ s.size ∧ s.extract 0 p.size = p) = b) (w : World) (hp : p.size ≤ 1000) : Calls Tryz.prog 72 #[.string s, .string p] w fun e w' => e = .returned (.bool b) ∧ w = w' := by
  have H := Lib.hid (hasPrefix0 s p w hp)
  rw [hb] at H
  clear hb
  go_enter Tryz.func72, Tryz.ntmps72
  go_wp2_with (go_at_call 147; refine H.out.mono ?_; rintro e w' ⟨rfl, rfl⟩)
  go_ret
  exact ⟨rfl, rfl⟩
end Go.Proofs.YtccldalagbfmhaaGreat
