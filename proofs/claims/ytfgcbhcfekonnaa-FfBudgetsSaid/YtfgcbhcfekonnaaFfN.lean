/- The law FfBudgets: words. -/
import Derived.Test.YtfgcbhcfekonnaaFfM
import Derived.Test.YtfgcbhcfekonnaaOpenLed
namespace Go.Proofs.Ytfgcbhcfekonnaa
open Go.RowKit
set_option linter.unusedVariables false
set_option linter.unusedSimpArgs false

theorem steps_at27 {w : World} {g : Nat} {x : Led} {q : Int} (h : LedAt w g x) (e : x.steps = q) : Calls Try.prog 15 #[.pointer (some ⟨g, 0, none⟩)] w fun e w' => e = .returned (.int .i64 q) ∧ w = w' := by
  have hc := h.steps
  rw [e] at hc
  clear h e
  go_enter Try.func15, Try.ntmps15
  go_wp2_with (go_at_call 41; refine (load64 _ _ _ hc).mono ?_; rintro e w' ⟨rfl, rfl⟩)
  go_ret
  exact ⟨rfl, rfl⟩
theorem bytesNone (w : World) : BytesAt w none 0 [] := ⟨rfl, .inl rfl⟩
theorem nought_max (c : Int) : nought c = max c 0 := by unfold nought; split <;> omega
/-- the box of a budget -/
def GB (w : World) (b : Nat) (p0 p1 p2 p3 : Int) : Prop := Blk w b 26 #[.int .i64 p0, .int .i64 p1, .int .i64 p2, .int .i64 p3]
theorem GB.all {w : World} {b : Nat} {p0 p1 p2 p3 : Int} (h : GB w b p0 p1 p2 p3) : w.cell? ⟨b, 0, none⟩ = some (.int .i64 p0) ∧ w.cell? ⟨b, 1, none⟩ = some (.int .i64 p1) ∧ w.cell? ⟨b, 2, none⟩ = some (.int .i64 p2) ∧ w.cell? ⟨b, 3, none⟩ = some (.int .i64 p3) := ⟨Blk.cell h 0, Blk.cell h 1, Blk.cell h 2, Blk.cell h 3⟩
end Go.Proofs.Ytfgcbhcfekonnaa
