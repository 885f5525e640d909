/- The law FfBudgets. -/
import Derived.Test.YtfgcbhcfekonnaaFfO
namespace Go.Proofs.Ytfgcbhcfekonnaa
open Go.RowKit
set_option linter.unusedVariables false
set_option linter.unusedSimpArgs false

theorem ffBudgets_wide {s : ByteArray} {ba bb bc bd : Int} (hs : s.size ≤ 900) (u : 60 < (ffSides s).1 ∨ 60 < (ffSides s).2) (w : World) :
    Calls Try.prog 6 #[.string s, .agg #[.int .i64 ba, .int .i64 bb, .int .i64 bc, .int .i64 bd]] w fun e w' => e = .returned (.bool true) ∧ Below w.heap.size w w' := by
  have hsI : ¬ (900 : Int) < (s.size : Int) := by omega
  have HR := Lib.hid (fun w => refFfSides (s := s) (by omega) w)
  generalize (ffSides s).1 = W at u HR
  generalize (ffSides s).2 = H at u HR
  have HB : Below w.heap.size w (w.alloc (.cells #[.int .i64 ba, .int .i64 bb, .int .i64 bc, .int .i64 bd] 26)) := (Below.refl _ _).alloc (Nat.le_refl _) _
  by_cases hb : bc ≤ 262144
  all_goals
    by_cases hW : 60 < W
    · have hWI : (60 : Int) < (W : Int) := by omega
      clear u hs hW
      go_enter Try.func6, Try.ntmps6
      go_wp2_with (first
        | (go_at_call 22; refine (HR.out _).mono ?_; rintro e w1 ⟨rfl, b1⟩; have B1 : Below w.heap.size w w1 := below_next ((Below.refl _ _).alloc (Nat.le_refl _) _) b1)
        | (go_at_call 21; refine (awake27_any _).mono ?_; rintro e w2 ⟨rfl, b2⟩))
      go_ret
      exact ⟨rfl, below_next B1 b2⟩
    · have hWI : ¬ (60 : Int) < (W : Int) := by omega
      have hHI : (60 : Int) < (H : Int) := by omega
      clear u hs hW
      go_enter Try.func6, Try.ntmps6
      go_wp2_with (first
        | (go_at_call 22; refine (HR.out _).mono ?_; rintro e w1 ⟨rfl, b1⟩; have B1 : Below w.heap.size w w1 := below_next ((Below.refl _ _).alloc (Nat.le_refl _) _) b1)
        | (go_at_call 21; refine (awake27_any _).mono ?_; rintro e w2 ⟨rfl, b2⟩))
      go_ret
      exact ⟨rfl, below_next B1 b2⟩
theorem ffBudgets_said (w : World) (s : ByteArray) (hs : s.size ≤ maxLen) (ba bb bc bd : Int) (hp : fits ba ∧ fits bb ∧ fits bc ∧ fits bd) :
    Calls Try.prog 6 #[.string s, .agg #[.int .i64 ba, .int .i64 bb, .int .i64 bc, .int .i64 bd]] w fun e w' => e = .returned (.bool true) ∧ Below w.heap.size w w' := by
  by_cases hlen : s.size ≤ 900
  · by_cases u : 60 < (ffSides s).1 ∨ 60 < (ffSides s).2
    · exact ffBudgets_wide hlen u w
    · have uW : (ffSides s).1 ≤ 60 := Nat.le_of_not_lt fun e => u (.inl e)
      have uH : (ffSides s).2 ≤ 60 := Nat.le_of_not_lt fun e => u (.inr e)
      by_cases h1 : bc ≤ 262144
      · by_cases h2 : bc < 0
        · by_cases h3 : bd < 0
          · exact ffBudgets_nn hlen hp ⟨h1, h2⟩ h3 rfl uW uH w
          · exact ffBudgets_np hlen hp ⟨h1, h2⟩ h3 rfl uW uH w
        · by_cases h3 : bd < 0
          · exact ffBudgets_mn hlen hp ⟨h1, h2⟩ h3 rfl uW uH w
          · exact ffBudgets_mp hlen hp ⟨h1, h2⟩ h3 rfl uW uH w
      · have h2 : ¬ bc < 0 := by omega
        by_cases h3 : bd < 0
        · exact ffBudgets_hn hlen hp ⟨h1, h2⟩ h3 rfl uW uH w
        · exact ffBudgets_hp hlen hp ⟨h1, h2⟩ h3 rfl uW uH w
  · have hI : (900 : Int) < (s.size : Int) := by omega
    go_enter Try.func6, Try.ntmps6
    go_wp2_with (go_at_call 21; refine (awake27_any _).mono ?_; rintro e w2 ⟨rfl, b2⟩)
    go_ret
    exact ⟨rfl, below_next ((Below.refl _ _).alloc (Nat.le_refl _) _) b2⟩
end Go.Proofs.Ytfgcbhcfekonnaa
