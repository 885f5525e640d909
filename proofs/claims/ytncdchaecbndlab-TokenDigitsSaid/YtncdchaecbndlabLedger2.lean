/- The ledger's New, Sides, First; awake of chapter 2. -/
import Derived.Test.YtncdchaecbndlabLedger
namespace Go.Proofs.Ytncdchaecbndlab
open Go.RowKit
set_option linter.unusedVariables false

theorem ledNew_any (a b c d : Int) (w : World) :
    Calls Try.prog 18 #[.agg #[.int .i64 a, .int .i64 b, .int .i64 c, .int .i64 d]] w fun e w' => e = .returned (.pointer (some ⟨w.heap.size + 1, 0, none⟩)) ∧ LedAt w' (w.heap.size + 1) (Led.new a b c d) ∧ Below w.heap.size w w' := by
  go_enter Try.func18, Try.ntmps18
  go_wp2_with fail
  all_goals go_ret
  all_goals refine ⟨rfl, (Blk.new_at _ _ _ (by simp)).eq_ ?_, ((Below.refl _ _).alloc (Nat.le_refl _) _).alloc (by simp) _⟩
  all_goals simp only [Led.cells, Led.new, Led.flag, nought, Array.mk.injEq, List.cons.injEq, Value.int.injEq, and_true, true_and, if_true]
  all_goals (refine ⟨?_, ?_, ?_, ?_⟩ <;> split <;> omega)

end Go.Proofs.Ytncdchaecbndlab
