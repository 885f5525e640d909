/- The ledger's calls from a known state; awake of chapter 2. -/
import Derived.Test.YtbegielhfcebdaaLedger2
namespace Go.Proofs.Ytbegielhfcebdaa
open Go.RowKit
set_option linter.unusedVariables false

section
variable {w : World} {g : Nat} {x y : Led} {n m : Int} {b : Bool}
theorem take_at (h : LedAt w g x) (ok : x.Ok) (e : x.take n = (y, b)) : Calls Try.prog 23 #[.pointer (some ⟨g, 0, none⟩), .int .i64 n] w fun e w' => e = .returned (.bool b) ∧ LedAt w' g y ∧ w.grownBy w' (some g) := by
  have := take_any g x n w h ok
  rw [e] at this
  exact this
theorem give_at (h : LedAt w g x) (ok : x.Ok) (e : x.give n = (y, b)) : Calls Try.prog 25 #[.pointer (some ⟨g, 0, none⟩), .int .i64 n] w fun e w' => e = .returned (.bool b) ∧ LedAt w' g y ∧ w.grownBy w' (some g) := by
  have := give_any g x n w h ok
  rw [e] at this
  exact this
theorem work_at (h : LedAt w g x) (ok : x.Ok) (e : x.work n = (y, b)) : Calls Try.prog 27 #[.pointer (some ⟨g, 0, none⟩), .int .i64 n] w fun e w' => e = .returned (.bool b) ∧ LedAt w' g y ∧ w.grownBy w' (some g) := by
  have := work_any g x n w h ok
  rw [e] at this
  exact this
theorem sides_at (h : LedAt w g x) (ok : x.Ok) (e : x.sides n m = (y, b)) : Calls Try.prog 21 #[.pointer (some ⟨g, 0, none⟩), .int .i64 n, .int .i64 m] w fun e w' => e = .returned (.bool b) ∧ LedAt w' g y ∧ w.grownBy w' (some g) := by
  have := sides_any g x n m w h ok
  rw [e] at this
  exact this
theorem first_at {r a : Int} {b : Bool} (h : LedAt w g x) (er : (if x.reason = 0 then 0 else x.reason) = r) (ea : (if x.reason = 0 then 0 else x.asked) = a) (eb : decide (x.reason ≠ 0) = b) : Calls Try.prog 29 #[.pointer (some ⟨g, 0, none⟩)] w fun e w' => e = .returned (.tuple #[.agg #[.int .i64 r, .int .i64 a], .bool b]) ∧ Below w.heap.size w w' := by
  have := first_any g x w h
  rw [er, ea, eb] at this
  exact this

theorem peak_at {p : Int} (h : LedAt w g x) (e : x.peak = p) : Calls Try.prog 31 #[.pointer (some ⟨g, 0, none⟩)] w fun e w' => e = .returned (.int .i64 p) ∧ w = w' := e ▸ peak_any g x w h
theorem bytes_at {p : Int} (h : LedAt w g x) (e : x.bytes = p) : Calls Try.prog 30 #[.pointer (some ⟨g, 0, none⟩)] w fun e w' => e = .returned (.int .i64 p) ∧ w = w' := e ▸ bytes_any g x w h
theorem broken_at (h : LedAt w g x) (e : decide (x.reason ≠ 0) = b) : Calls Try.prog 33 #[.pointer (some ⟨g, 0, none⟩)] w fun e w' => e = .returned (.bool b) ∧ w = w' := e ▸ broken_any g x w h
theorem below_step {a c : World} (h : Below w.heap.size w a) (k : a.grownBy c (some g)) (hg : w.heap.size ≤ g) : Below w.heap.size w c := h.trans (below_of_only k hg h.size)
theorem below_next {a c : World} (h : Below w.heap.size w a) (k : Below a.heap.size a c) : Below w.heap.size w c := h.trans (k.mono h.size)
end

theorem ledNew_at {a b c d : Int} {x : Led} (e : Led.new a b c d = x) (w : World) :
    Calls Try.prog 18 #[.agg #[.int .i64 a, .int .i64 b, .int .i64 c, .int .i64 d]] w fun e w' => ∃ g, e = .returned (.pointer (some ⟨g, 0, none⟩)) ∧ w.heap.size ≤ g ∧ LedAt w' g x ∧ Below w.heap.size w w' := by
  refine (ledNew_any a b c d w).mono ?_
  rintro e' w' ⟨rfl, h, b⟩
  exact ⟨_, rfl, by omega, e ▸ h, b⟩

def A0 : Led := ⟨0, 0, 10, 0, 0, 0, 0, 0, 0⟩
def A1 : Led := ⟨0, 0, 10, 0, 8, 8, 0, 0, 0⟩
def A2 : Led := ⟨0, 0, 10, 0, 8, 8, 0, 2, 3⟩
def A4 : Led := ⟨0, 0, 10, 0, 0, 8, 0, 2, 3⟩
theorem A0.ok : A0.Ok := by constructor <;> decide
theorem A1.ok : A1.Ok := by constructor <;> decide
theorem A2.ok : A2.Ok := by constructor <;> decide

theorem ea1 : A0.take 8 = (A1, true) := rfl
theorem ea2 : A1.take 3 = (A2, false) := rfl
theorem ea3 : A2.take 1 = (A2, false) := rfl
theorem ea4 : A2.give 8 = (A4, true) := rfl
theorem ea5 : (if A4.reason = 0 then 0 else A4.reason) = 2 := rfl
theorem ea6 : (if A4.reason = 0 then 0 else A4.asked) = 3 := rfl
theorem ea7 : decide (A4.reason ≠ 0) = true := rfl
theorem ea8 : A4.peak = 8 := rfl
theorem ea0 : Led.new 0 0 10 0 = A0 := rfl
set_option maxRecDepth 100000 in
theorem awake_any (w : World) :
    Calls Try.prog 34 #[] w fun e w' => e = .returned (.bool true) ∧ Below w.heap.size w w' := by
  go_enter Try.func34, Try.ntmps34
  go_wp2_with (first
    | (go_at_call 33; refine (broken_at (Blk.alloc h5 _) ea7).mono ?_; rintro e w7 ⟨rfl, rfl⟩)
    | (go_at_call 31; refine (peak_at (Blk.alloc h5 _) ea8).mono ?_; rintro e w6 ⟨rfl, rfl⟩)
    | (go_at_call 29; refine (first_at h4 ea5 ea6 ea7).mono ?_; rintro e w5 ⟨rfl, b5⟩; have h5 := Blk.below h4 b5 (Blk.lt h4))
    | (go_at_call 25; refine (give_at h3 A2.ok ea4).mono ?_; rintro e w4 ⟨rfl, h4, b4⟩)
    | (go_at_call 23; refine (take_at h2 A2.ok ea3).mono ?_; rintro e w3 ⟨rfl, h3, b3⟩)
    | (go_at_call 23; refine (take_at h1 A1.ok ea2).mono ?_; rintro e w2 ⟨rfl, h2, b2⟩)
    | (go_at_call 23; refine (take_at h0 A0.ok ea1).mono ?_; rintro e w1 ⟨rfl, h1, b1⟩)
    | (go_at_call 18; refine (ledNew_at ea0 _).mono ?_; rintro e w0 ⟨g, rfl, hgB, h0, b0⟩))
  go_ret
  have bel := below_next (below_step (below_step (below_step (below_step b0 b1 hgB) b2 hgB) b3 hgB) b4 hgB) b5
  exact ⟨rfl, bel.alloc bel.size _⟩
end Go.Proofs.Ytbegielhfcebdaa
