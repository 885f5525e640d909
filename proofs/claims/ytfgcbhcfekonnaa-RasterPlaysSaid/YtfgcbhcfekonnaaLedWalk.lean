/- The ledger's calls from a known state; awake of chapter 2. -/
import Derived.Test.YtfgcbhcfekonnaaLedger2
namespace Go.Proofs.Ytfgcbhcfekonnaa
open Go.RowKit
set_option linter.unusedVariables false

section
variable {w : World} {g : Nat} {x y : Led} {n m : Int} {b : Bool}
theorem take_at (h : LedAt w g x) (ok : x.Ok) (e : x.take n = (y, b)) : Calls Try.prog 76 #[.pointer (some ⟨g, 0, none⟩), .int .i64 n] w fun e w' => e = .returned (.bool b) ∧ LedAt w' g y ∧ w.grownBy w' (some g) := by
  have := take_any g x n w h ok
  rw [e] at this
  exact this
theorem give_at (h : LedAt w g x) (ok : x.Ok) (e : x.give n = (y, b)) : Calls Try.prog 108 #[.pointer (some ⟨g, 0, none⟩), .int .i64 n] w fun e w' => e = .returned (.bool b) ∧ LedAt w' g y ∧ w.grownBy w' (some g) := by
  have := give_any g x n w h ok
  rw [e] at this
  exact this
theorem work_at (h : LedAt w g x) (ok : x.Ok) (e : x.work n = (y, b)) : Calls Try.prog 79 #[.pointer (some ⟨g, 0, none⟩), .int .i64 n] w fun e w' => e = .returned (.bool b) ∧ LedAt w' g y ∧ w.grownBy w' (some g) := by
  have := work_any g x n w h ok
  rw [e] at this
  exact this
theorem sides_at (h : LedAt w g x) (ok : x.Ok) (e : x.sides n m = (y, b)) : Calls Try.prog 38 #[.pointer (some ⟨g, 0, none⟩), .int .i64 n, .int .i64 m] w fun e w' => e = .returned (.bool b) ∧ LedAt w' g y ∧ w.grownBy w' (some g) := by
  have := sides_any g x n m w h ok
  rw [e] at this
  exact this
theorem peak_at {p : Int} (h : LedAt w g x) (e : x.peak = p) : Calls Try.prog 31 #[.pointer (some ⟨g, 0, none⟩)] w fun e w' => e = .returned (.int .i64 p) ∧ w = w' := e ▸ peak_any g x w h
theorem bytes_at {p : Int} (h : LedAt w g x) (e : x.bytes = p) : Calls Try.prog 12 #[.pointer (some ⟨g, 0, none⟩)] w fun e w' => e = .returned (.int .i64 p) ∧ w = w' := e ▸ bytes_any g x w h
theorem broken_at (h : LedAt w g x) (e : decide (x.reason ≠ 0) = b) : Calls Try.prog 32 #[.pointer (some ⟨g, 0, none⟩)] w fun e w' => e = .returned (.bool b) ∧ w = w' := e ▸ broken_any g x w h
theorem below_step {a c : World} (h : Below w.heap.size w a) (k : a.grownBy c (some g)) (hg : w.heap.size ≤ g) : Below w.heap.size w c := h.trans (below_of_only k hg h.size)
theorem below_next {a c : World} (h : Below w.heap.size w a) (k : Below a.heap.size a c) : Below w.heap.size w c := h.trans (k.mono h.size)
end

theorem ledNew_at {a b c d : Int} {x : Led} (e : Led.new a b c d = x) (w : World) :
    Calls Try.prog 8 #[.agg #[.int .i64 a, .int .i64 b, .int .i64 c, .int .i64 d]] w fun e w' => ∃ g, e = .returned (.pointer (some ⟨g, 0, none⟩)) ∧ w.heap.size ≤ g ∧ LedAt w' g x ∧ Below w.heap.size w w' := by
  refine (ledNew_any a b c d w).mono ?_
  rintro e' w' ⟨rfl, h, b⟩
  exact ⟨_, rfl, by omega, e ▸ h, b⟩

def A0 : Led := ⟨0, 0, 10, 0, 0, 0, 0, 0, 0⟩
def A1 : Led := ⟨0, 0, 10, 0, 8, 8, 0, 0, 0⟩
def A2 : Led := ⟨0, 0, 10, 0, 8, 8, 0, 2, 3⟩
def A4 : Led := ⟨0, 0, 10, 0, 0, 8, 0, 2, 3⟩
theorem A0.ok : A0.Ok := by constructor <;> decide
theorem A1.ok : A1.Ok := by constructor <;> decide
theorem A2.ok : A2.Ok := by constructor <;> decide

theorem ea1 : A0.take 8 = (A1, true) := rfl
theorem ea2 : A1.take 3 = (A2, false) := rfl
theorem ea3 : A2.take 1 = (A2, false) := rfl
theorem ea4 : A2.give 8 = (A4, true) := rfl
theorem ea5 : (if A4.reason = 0 then 0 else A4.reason) = 2 := rfl
theorem ea6 : (if A4.reason = 0 then 0 else A4.asked) = 3 := rfl
theorem ea7 : decide (A4.reason ≠ 0) = true := rfl
theorem ea8 : A4.peak = 8 := rfl
theorem ea0 : Led.new 0 0 10 0 = A0 := rfl
end Go.Proofs.Ytfgcbhcfekonnaa
