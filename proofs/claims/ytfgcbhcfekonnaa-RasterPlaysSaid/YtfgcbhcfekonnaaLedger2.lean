/- The ledger's New, Sides, First; awake of chapter 2. -/
import Derived.Test.YtfgcbhcfekonnaaLedger
namespace Go.Proofs.Ytfgcbhcfekonnaa
open Go.RowKit
set_option linter.unusedVariables false

theorem ledNew_any (a b c d : Int) (w : World) :
    Calls Try.prog 8 #[.agg #[.int .i64 a, .int .i64 b, .int .i64 c, .int .i64 d]] w fun e w' => e = .returned (.pointer (some ⟨w.heap.size + 1, 0, none⟩)) ∧ LedAt w' (w.heap.size + 1) (Led.new a b c d) ∧ Below w.heap.size w w' := by
  go_enter Try.func8, Try.ntmps8
  go_wp2_with fail
  all_goals go_ret
  all_goals refine ⟨rfl, (Blk.new_at _ _ _ (by simp)).eq_ ?_, ((Below.refl _ _).alloc (Nat.le_refl _) _).alloc (by simp) _⟩
  all_goals simp only [Led.cells, Led.new, Led.flag, nought, Array.mk.injEq, List.cons.injEq, Value.int.injEq, and_true, true_and, if_true]
  all_goals (refine ⟨?_, ?_, ?_, ?_⟩ <;> split <;> omega)

theorem sides_any (g : Nat) (x : Led) (a b : Int) (w : World) (h : LedAt w g x) (ok : x.Ok) :
    Calls Try.prog 38 #[.pointer (some ⟨g, 0, none⟩), .int .i64 a, .int .i64 b] w fun e w' => e = .returned (.bool (x.sides a b).2) ∧ LedAt w' g (x.sides a b).1 ∧ w.grownBy w' (some g) := by
  have cW := h.W
  have cH := h.H
  have cb := h.broken
  have HL := Lib.hid h
  by_cases hx : x.reason ≠ 0
  · have e := Lib.hid (show x.sides a b = (x, false) from if_pos hx)
    have hf : (x.flag != 0) = true := by rw [Led.flag_b]; simpa using hx
    clear hx h ok
    go_enter Try.func38, Try.ntmps38
    go_wp2_with (go_at_call 71; refine (loadB _ x.flag true _ hf cb).mono ?_; rintro e w' ⟨rfl, rfl⟩)
    go_ret
    exact ⟨by rw [e.out]; rfl, by rw [e.out]; exact HL.out, only_refl _ _⟩
  have hx0 : x.reason = 0 := by simpa using hx
  have hf : (x.flag != 0) = false := by rw [Led.flag_b]; simpa using hx
  by_cases hw : a < 1 ∨ x.W < a
  · have e := Lib.hid (show x.sides a b = (x.refused 1 a, false) by unfold Led.sides; rw [if_neg hx, if_pos hw])
    have HR := Lib.hid (refuse_any g x 1 a w h hx0 (by decide))
    clear hx hx0 h ok
    by_cases ha : a < 1
    all_goals
      have ha' : ¬ a < 1 → x.W < a := by omega
      clear hw
      go_enter Try.func38, Try.ntmps38
      go_wp2_with (first | (go_at_call 71; refine (loadB _ x.flag false _ hf cb).mono ?_; rintro e w' ⟨rfl, rfl⟩) | (go_at_call 73; refine HR.out.mono ?_; rintro e w' ⟨rfl, hq1, hq2⟩))
      go_ret
      exact ⟨by rw [e.out]; rfl, by rw [e.out]; exact hq1, hq2⟩
  by_cases hh : b < 1 ∨ x.H < b
  · have e := Lib.hid (show x.sides a b = (x.refused 1 b, false) by unfold Led.sides; rw [if_neg hx, if_neg hw, if_pos hh])
    have HR := Lib.hid (refuse_any g x 1 b w h hx0 (by decide))
    have ha : ¬ a < 1 := by omega
    have ha' : ¬ x.W < a := by omega
    clear hx hx0 h ok hw
    by_cases hb : b < 1
    all_goals
      have hb' : ¬ b < 1 → x.H < b := by omega
      clear hh
      go_enter Try.func38, Try.ntmps38
      go_wp2_with (first | (go_at_call 71; refine (loadB _ x.flag false _ hf cb).mono ?_; rintro e w' ⟨rfl, rfl⟩) | (go_at_call 73; refine HR.out.mono ?_; rintro e w' ⟨rfl, hq1, hq2⟩))
      go_ret
      exact ⟨by rw [e.out]; rfl, by rw [e.out]; exact hq1, hq2⟩
  · have e := Lib.hid (show x.sides a b = (x, true) by unfold Led.sides; rw [if_neg hx, if_neg hw, if_neg hh])
    have ha : ¬ a < 1 := by omega
    have ha' : ¬ x.W < a := by omega
    have hb : ¬ b < 1 := by omega
    have hb' : ¬ x.H < b := by omega
    clear hx hx0 h ok hw hh
    go_enter Try.func38, Try.ntmps38
    go_wp2_with (first | (go_at_call 71; refine (loadB _ x.flag false _ hf cb).mono ?_; rintro e w' ⟨rfl, rfl⟩))
    go_ret
    exact ⟨by rw [e.out]; rfl, by rw [e.out]; exact HL.out, only_refl _ _⟩
end Go.Proofs.Ytfgcbhcfekonnaa
