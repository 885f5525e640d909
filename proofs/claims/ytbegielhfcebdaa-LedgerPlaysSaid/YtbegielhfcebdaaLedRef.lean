/- The reference ledger: its functions by contract. -/
import Derived.Test.YtbegielhfcebdaaLedLaw
import Derived.Test.YtbegielhfcebdaaWords
namespace Go.Proofs.Ytbegielhfcebdaa
open Go.RowKit
set_option linter.unusedVariables false

theorem nought2_any (a : Int) (w : World) : Calls Try.prog 84 #[.int .i64 a] w fun e w' => e = .returned (.int .i64 (nought a)) ∧ w = w' := by
  by_cases h : a < 0
  · rw [show nought a = 0 from if_pos h]
    go_enter Try.func84, Try.ntmps84
    go_wp2_with fail
    go_ret
    exact ⟨rfl, rfl⟩
  · rw [show nought a = a from if_neg h]
    go_enter Try.func84, Try.ntmps84
    go_wp2_with fail
    go_ret
    exact ⟨rfl, rfl⟩
theorem two_below (w : World) (a b : Obj) : Below w.heap.size w ((w.alloc a).alloc b) := ((Below.refl _ _).alloc (Nat.le_refl _) _).alloc (by simp) _
theorem four_below (w : World) (a b c d : Obj) : Below w.heap.size w ((((w.alloc a).alloc b).alloc c).alloc d) := ((two_below w a b).alloc (by simp; omega) _).alloc (by simp; omega) _

set_option maxRecDepth 100000 in
theorem refuse2_any {W H B S y p t a : Int} (u v : Int) (w : World)  :
    Calls Try.prog 87 #[.agg #[.int .i64 W, .int .i64 H, .int .i64 B, .int .i64 S, .int .i64 y, .int .i64 p, .int .i64 t, .int .i64 0, .int .i64 a], .int .i64 u, .int .i64 v] w fun e w' => e = .returned (.tuple #[.agg #[.int .i64 W, .int .i64 H, .int .i64 B, .int .i64 S, .int .i64 y, .int .i64 p, .int .i64 t, .int .i64 u, .int .i64 v], .bool false]) ∧ ∃ A B : Obj, (w.alloc A).alloc B = w' := by
  go_enter Try.func87, Try.ntmps87
  go_wp2_with fail
  exact bodyPost_ret (v := .tuple #[.agg #[.int .i64 W, .int .i64 H, .int .i64 B, .int .i64 S, .int .i64 y, .int .i64 p, .int .i64 t, .int .i64 u, .int .i64 v], .bool false]) (by simp [results, Try.results87, go_sem]) rfl ⟨rfl, _, _, rfl⟩

set_option maxRecDepth 100000 in
theorem r2sides_b {W H B S y p t r a : Int} (n m : Int) (w : World) (hx : ¬ r = 0) :
    Calls Try.prog 22 #[.agg #[.int .i64 W, .int .i64 H, .int .i64 B, .int .i64 S, .int .i64 y, .int .i64 p, .int .i64 t, .int .i64 r, .int .i64 a], .int .i64 n, .int .i64 m] w fun e w' => e = .returned (.tuple #[.agg #[.int .i64 W, .int .i64 H, .int .i64 B, .int .i64 S, .int .i64 y, .int .i64 p, .int .i64 t, .int .i64 r, .int .i64 a], .bool false]) ∧ Below w.heap.size w w' := by
  go_enter Try.func22, Try.ntmps22
  go_wp2_with fail
  exact bodyPost_ret (v := .tuple #[.agg #[.int .i64 W, .int .i64 H, .int .i64 B, .int .i64 S, .int .i64 y, .int .i64 p, .int .i64 t, .int .i64 r, .int .i64 a], .bool false]) (by simp [results, Try.results22, go_sem]) rfl ⟨rfl, two_below _ _ _⟩

set_option maxRecDepth 100000 in
theorem r2sides_w1 {W H B S y p t a : Int} (n m : Int) (w : World) (h : n < 1) :
    Calls Try.prog 22 #[.agg #[.int .i64 W, .int .i64 H, .int .i64 B, .int .i64 S, .int .i64 y, .int .i64 p, .int .i64 t, .int .i64 0, .int .i64 a], .int .i64 n, .int .i64 m] w fun e w' => e = .returned (.tuple #[.agg #[.int .i64 W, .int .i64 H, .int .i64 B, .int .i64 S, .int .i64 y, .int .i64 p, .int .i64 t, .int .i64 1, .int .i64 n], .bool false]) ∧ Below w.heap.size w w' := by
  go_enter Try.func22, Try.ntmps22
  go_wp2_with (go_at_call 87; refine (refuse2_any (W := W) (H := H) (B := B) (S := S) (y := y) (p := p) (t := t) (a := a) 1 n _).mono ?_; rintro e w9 ⟨rfl, A9, B9, rfl⟩)
  exact bodyPost_ret (v := .tuple #[.agg #[.int .i64 W, .int .i64 H, .int .i64 B, .int .i64 S, .int .i64 y, .int .i64 p, .int .i64 t, .int .i64 1, .int .i64 n], .bool false]) (by simp [results, Try.results22, go_sem]) rfl ⟨rfl, four_below _ _ _ _ _⟩

set_option maxRecDepth 100000 in
theorem r2sides_w2 {W H B S y p t a : Int} (n m : Int) (w : World) (h : ¬ n < 1) (h1 : W < n) :
    Calls Try.prog 22 #[.agg #[.int .i64 W, .int .i64 H, .int .i64 B, .int .i64 S, .int .i64 y, .int .i64 p, .int .i64 t, .int .i64 0, .int .i64 a], .int .i64 n, .int .i64 m] w fun e w' => e = .returned (.tuple #[.agg #[.int .i64 W, .int .i64 H, .int .i64 B, .int .i64 S, .int .i64 y, .int .i64 p, .int .i64 t, .int .i64 1, .int .i64 n], .bool false]) ∧ Below w.heap.size w w' := by
  go_enter Try.func22, Try.ntmps22
  go_wp2_with (go_at_call 87; refine (refuse2_any (W := W) (H := H) (B := B) (S := S) (y := y) (p := p) (t := t) (a := a) 1 n _).mono ?_; rintro e w9 ⟨rfl, A9, B9, rfl⟩)
  exact bodyPost_ret (v := .tuple #[.agg #[.int .i64 W, .int .i64 H, .int .i64 B, .int .i64 S, .int .i64 y, .int .i64 p, .int .i64 t, .int .i64 1, .int .i64 n], .bool false]) (by simp [results, Try.results22, go_sem]) rfl ⟨rfl, four_below _ _ _ _ _⟩

set_option maxRecDepth 100000 in
theorem r2sides_h1 {W H B S y p t a : Int} (n m : Int) (w : World) (h0 : ¬ n < 1) (h01 : ¬ W < n) (h : m < 1) :
    Calls Try.prog 22 #[.agg #[.int .i64 W, .int .i64 H, .int .i64 B, .int .i64 S, .int .i64 y, .int .i64 p, .int .i64 t, .int .i64 0, .int .i64 a], .int .i64 n, .int .i64 m] w fun e w' => e = .returned (.tuple #[.agg #[.int .i64 W, .int .i64 H, .int .i64 B, .int .i64 S, .int .i64 y, .int .i64 p, .int .i64 t, .int .i64 1, .int .i64 m], .bool false]) ∧ Below w.heap.size w w' := by
  go_enter Try.func22, Try.ntmps22
  go_wp2_with (go_at_call 87; refine (refuse2_any (W := W) (H := H) (B := B) (S := S) (y := y) (p := p) (t := t) (a := a) 1 m _).mono ?_; rintro e w9 ⟨rfl, A9, B9, rfl⟩)
  exact bodyPost_ret (v := .tuple #[.agg #[.int .i64 W, .int .i64 H, .int .i64 B, .int .i64 S, .int .i64 y, .int .i64 p, .int .i64 t, .int .i64 1, .int .i64 m], .bool false]) (by simp [results, Try.results22, go_sem]) rfl ⟨rfl, four_below _ _ _ _ _⟩

set_option maxRecDepth 100000 in
theorem r2sides_h2 {W H B S y p t a : Int} (n m : Int) (w : World) (h0 : ¬ n < 1) (h01 : ¬ W < n) (h : ¬ m < 1) (h1 : H < m) :
    Calls Try.prog 22 #[.agg #[.int .i64 W, .int .i64 H, .int .i64 B, .int .i64 S, .int .i64 y, .int .i64 p, .int .i64 t, .int .i64 0, .int .i64 a], .int .i64 n, .int .i64 m] w fun e w' => e = .returned (.tuple #[.agg #[.int .i64 W, .int .i64 H, .int .i64 B, .int .i64 S, .int .i64 y, .int .i64 p, .int .i64 t, .int .i64 1, .int .i64 m], .bool false]) ∧ Below w.heap.size w w' := by
  go_enter Try.func22, Try.ntmps22
  go_wp2_with (go_at_call 87; refine (refuse2_any (W := W) (H := H) (B := B) (S := S) (y := y) (p := p) (t := t) (a := a) 1 m _).mono ?_; rintro e w9 ⟨rfl, A9, B9, rfl⟩)
  exact bodyPost_ret (v := .tuple #[.agg #[.int .i64 W, .int .i64 H, .int .i64 B, .int .i64 S, .int .i64 y, .int .i64 p, .int .i64 t, .int .i64 1, .int .i64 m], .bool false]) (by simp [results, Try.results22, go_sem]) rfl ⟨rfl, four_below _ _ _ _ _⟩

set_option maxRecDepth 100000 in
theorem r2sides_y {W H B S y p t a : Int} (n m : Int) (w : World) (h0 : ¬ n < 1) (h01 : ¬ W < n) (h : ¬ m < 1) (h1 : ¬ H < m) :
    Calls Try.prog 22 #[.agg #[.int .i64 W, .int .i64 H, .int .i64 B, .int .i64 S, .int .i64 y, .int .i64 p, .int .i64 t, .int .i64 0, .int .i64 a], .int .i64 n, .int .i64 m] w fun e w' => e = .returned (.tuple #[.agg #[.int .i64 W, .int .i64 H, .int .i64 B, .int .i64 S, .int .i64 y, .int .i64 p, .int .i64 t, .int .i64 0, .int .i64 a], .bool true]) ∧ Below w.heap.size w w' := by
  go_enter Try.func22, Try.ntmps22
  go_wp2_with fail
  exact bodyPost_ret (v := .tuple #[.agg #[.int .i64 W, .int .i64 H, .int .i64 B, .int .i64 S, .int .i64 y, .int .i64 p, .int .i64 t, .int .i64 0, .int .i64 a], .bool true]) (by simp [results, Try.results22, go_sem]) rfl ⟨rfl, two_below _ _ _⟩

set_option maxRecDepth 100000 in
theorem r2take_b {W H B S y p t r a : Int} (n : Int) (w : World) (hx : ¬ r = 0) :
    Calls Try.prog 24 #[.agg #[.int .i64 W, .int .i64 H, .int .i64 B, .int .i64 S, .int .i64 y, .int .i64 p, .int .i64 t, .int .i64 r, .int .i64 a], .int .i64 n] w fun e w' => e = .returned (.tuple #[.agg #[.int .i64 W, .int .i64 H, .int .i64 B, .int .i64 S, .int .i64 y, .int .i64 p, .int .i64 t, .int .i64 r, .int .i64 a], .bool false]) ∧ Below w.heap.size w w' := by
  go_enter Try.func24, Try.ntmps24
  go_wp2_with fail
  exact bodyPost_ret (v := .tuple #[.agg #[.int .i64 W, .int .i64 H, .int .i64 B, .int .i64 S, .int .i64 y, .int .i64 p, .int .i64 t, .int .i64 r, .int .i64 a], .bool false]) (by simp [results, Try.results24, go_sem]) rfl ⟨rfl, two_below _ _ _⟩

set_option maxRecDepth 100000 in
theorem r2take_n1 {W H B S y p t a : Int} (n : Int) (w : World) (g0 : 0 ≤ y) (g1 : y ≤ B) (g2 : B ≤ 9223372036854775807) (h : n < 0) :
    Calls Try.prog 24 #[.agg #[.int .i64 W, .int .i64 H, .int .i64 B, .int .i64 S, .int .i64 y, .int .i64 p, .int .i64 t, .int .i64 0, .int .i64 a], .int .i64 n] w fun e w' => e = .returned (.tuple #[.agg #[.int .i64 W, .int .i64 H, .int .i64 B, .int .i64 S, .int .i64 y, .int .i64 p, .int .i64 t, .int .i64 2, .int .i64 n], .bool false]) ∧ Below w.heap.size w w' := by
  go_enter Try.func24, Try.ntmps24
  go_wp2_with (go_at_call 87; refine (refuse2_any (W := W) (H := H) (B := B) (S := S) (y := y) (p := p) (t := t) (a := a) 2 n _).mono ?_; rintro e w9 ⟨rfl, A9, B9, rfl⟩)
  exact bodyPost_ret (v := .tuple #[.agg #[.int .i64 W, .int .i64 H, .int .i64 B, .int .i64 S, .int .i64 y, .int .i64 p, .int .i64 t, .int .i64 2, .int .i64 n], .bool false]) (by simp [results, Try.results24, go_sem]) rfl ⟨rfl, four_below _ _ _ _ _⟩

set_option maxRecDepth 100000 in
theorem r2take_n2 {W H B S y p t a : Int} (n : Int) (w : World) (g0 : 0 ≤ y) (g1 : y ≤ B) (g2 : B ≤ 9223372036854775807) (h : ¬ n < 0) (h1 : B - y < n) :
    Calls Try.prog 24 #[.agg #[.int .i64 W, .int .i64 H, .int .i64 B, .int .i64 S, .int .i64 y, .int .i64 p, .int .i64 t, .int .i64 0, .int .i64 a], .int .i64 n] w fun e w' => e = .returned (.tuple #[.agg #[.int .i64 W, .int .i64 H, .int .i64 B, .int .i64 S, .int .i64 y, .int .i64 p, .int .i64 t, .int .i64 2, .int .i64 n], .bool false]) ∧ Below w.heap.size w w' := by
  go_enter Try.func24, Try.ntmps24
  go_wp2_with (go_at_call 87; refine (refuse2_any (W := W) (H := H) (B := B) (S := S) (y := y) (p := p) (t := t) (a := a) 2 n _).mono ?_; rintro e w9 ⟨rfl, A9, B9, rfl⟩)
  exact bodyPost_ret (v := .tuple #[.agg #[.int .i64 W, .int .i64 H, .int .i64 B, .int .i64 S, .int .i64 y, .int .i64 p, .int .i64 t, .int .i64 2, .int .i64 n], .bool false]) (by simp [results, Try.results24, go_sem]) rfl ⟨rfl, four_below _ _ _ _ _⟩

set_option maxRecDepth 100000 in
theorem r2take_p {W H B S y p t a : Int} (n : Int) (w : World) (g0 : 0 ≤ y) (g1 : y ≤ B) (g2 : B ≤ 9223372036854775807) (h : ¬ n < 0) (h1 : ¬ B - y < n) (h2 : p < y + n) :
    Calls Try.prog 24 #[.agg #[.int .i64 W, .int .i64 H, .int .i64 B, .int .i64 S, .int .i64 y, .int .i64 p, .int .i64 t, .int .i64 0, .int .i64 a], .int .i64 n] w fun e w' => e = .returned (.tuple #[.agg #[.int .i64 W, .int .i64 H, .int .i64 B, .int .i64 S, .int .i64 (y + n), .int .i64 (y + n), .int .i64 t, .int .i64 0, .int .i64 a], .bool true]) ∧ Below w.heap.size w w' := by
  go_enter Try.func24, Try.ntmps24
  go_wp2_with fail
  exact bodyPost_ret (v := .tuple #[.agg #[.int .i64 W, .int .i64 H, .int .i64 B, .int .i64 S, .int .i64 (y + n), .int .i64 (y + n), .int .i64 t, .int .i64 0, .int .i64 a], .bool true]) (by simp [results, Try.results24, go_sem]) rfl ⟨rfl, two_below _ _ _⟩

set_option maxRecDepth 100000 in
theorem r2take_q {W H B S y p t a : Int} (n : Int) (w : World) (g0 : 0 ≤ y) (g1 : y ≤ B) (g2 : B ≤ 9223372036854775807) (h : ¬ n < 0) (h1 : ¬ B - y < n) (h2 : ¬ p < y + n) :
    Calls Try.prog 24 #[.agg #[.int .i64 W, .int .i64 H, .int .i64 B, .int .i64 S, .int .i64 y, .int .i64 p, .int .i64 t, .int .i64 0, .int .i64 a], .int .i64 n] w fun e w' => e = .returned (.tuple #[.agg #[.int .i64 W, .int .i64 H, .int .i64 B, .int .i64 S, .int .i64 (y + n), .int .i64 p, .int .i64 t, .int .i64 0, .int .i64 a], .bool true]) ∧ Below w.heap.size w w' := by
  go_enter Try.func24, Try.ntmps24
  go_wp2_with fail
  exact bodyPost_ret (v := .tuple #[.agg #[.int .i64 W, .int .i64 H, .int .i64 B, .int .i64 S, .int .i64 (y + n), .int .i64 p, .int .i64 t, .int .i64 0, .int .i64 a], .bool true]) (by simp [results, Try.results24, go_sem]) rfl ⟨rfl, two_below _ _ _⟩

set_option maxRecDepth 100000 in
theorem r2work_b {W H B S y p t r a : Int} (n : Int) (w : World) (hx : ¬ r = 0) :
    Calls Try.prog 28 #[.agg #[.int .i64 W, .int .i64 H, .int .i64 B, .int .i64 S, .int .i64 y, .int .i64 p, .int .i64 t, .int .i64 r, .int .i64 a], .int .i64 n] w fun e w' => e = .returned (.tuple #[.agg #[.int .i64 W, .int .i64 H, .int .i64 B, .int .i64 S, .int .i64 y, .int .i64 p, .int .i64 t, .int .i64 r, .int .i64 a], .bool false]) ∧ Below w.heap.size w w' := by
  go_enter Try.func28, Try.ntmps28
  go_wp2_with fail
  exact bodyPost_ret (v := .tuple #[.agg #[.int .i64 W, .int .i64 H, .int .i64 B, .int .i64 S, .int .i64 y, .int .i64 p, .int .i64 t, .int .i64 r, .int .i64 a], .bool false]) (by simp [results, Try.results28, go_sem]) rfl ⟨rfl, two_below _ _ _⟩

set_option maxRecDepth 100000 in
theorem r2work_n1 {W H B S y p t a : Int} (n : Int) (w : World) (g0 : 0 ≤ t) (g1 : t ≤ S) (g2 : S ≤ 9223372036854775807) (h : n < 0) :
    Calls Try.prog 28 #[.agg #[.int .i64 W, .int .i64 H, .int .i64 B, .int .i64 S, .int .i64 y, .int .i64 p, .int .i64 t, .int .i64 0, .int .i64 a], .int .i64 n] w fun e w' => e = .returned (.tuple #[.agg #[.int .i64 W, .int .i64 H, .int .i64 B, .int .i64 S, .int .i64 y, .int .i64 p, .int .i64 t, .int .i64 3, .int .i64 n], .bool false]) ∧ Below w.heap.size w w' := by
  go_enter Try.func28, Try.ntmps28
  go_wp2_with (go_at_call 87; refine (refuse2_any (W := W) (H := H) (B := B) (S := S) (y := y) (p := p) (t := t) (a := a) 3 n _).mono ?_; rintro e w9 ⟨rfl, A9, B9, rfl⟩)
  exact bodyPost_ret (v := .tuple #[.agg #[.int .i64 W, .int .i64 H, .int .i64 B, .int .i64 S, .int .i64 y, .int .i64 p, .int .i64 t, .int .i64 3, .int .i64 n], .bool false]) (by simp [results, Try.results28, go_sem]) rfl ⟨rfl, four_below _ _ _ _ _⟩

set_option maxRecDepth 100000 in
theorem r2work_n2 {W H B S y p t a : Int} (n : Int) (w : World) (g0 : 0 ≤ t) (g1 : t ≤ S) (g2 : S ≤ 9223372036854775807) (h : ¬ n < 0) (h1 : S - t < n) :
    Calls Try.prog 28 #[.agg #[.int .i64 W, .int .i64 H, .int .i64 B, .int .i64 S, .int .i64 y, .int .i64 p, .int .i64 t, .int .i64 0, .int .i64 a], .int .i64 n] w fun e w' => e = .returned (.tuple #[.agg #[.int .i64 W, .int .i64 H, .int .i64 B, .int .i64 S, .int .i64 y, .int .i64 p, .int .i64 t, .int .i64 3, .int .i64 n], .bool false]) ∧ Below w.heap.size w w' := by
  go_enter Try.func28, Try.ntmps28
  go_wp2_with (go_at_call 87; refine (refuse2_any (W := W) (H := H) (B := B) (S := S) (y := y) (p := p) (t := t) (a := a) 3 n _).mono ?_; rintro e w9 ⟨rfl, A9, B9, rfl⟩)
  exact bodyPost_ret (v := .tuple #[.agg #[.int .i64 W, .int .i64 H, .int .i64 B, .int .i64 S, .int .i64 y, .int .i64 p, .int .i64 t, .int .i64 3, .int .i64 n], .bool false]) (by simp [results, Try.results28, go_sem]) rfl ⟨rfl, four_below _ _ _ _ _⟩

set_option maxRecDepth 100000 in
theorem r2work_y {W H B S y p t a : Int} (n : Int) (w : World) (g0 : 0 ≤ t) (g1 : t ≤ S) (g2 : S ≤ 9223372036854775807) (h : ¬ n < 0) (h1 : ¬ S - t < n) :
    Calls Try.prog 28 #[.agg #[.int .i64 W, .int .i64 H, .int .i64 B, .int .i64 S, .int .i64 y, .int .i64 p, .int .i64 t, .int .i64 0, .int .i64 a], .int .i64 n] w fun e w' => e = .returned (.tuple #[.agg #[.int .i64 W, .int .i64 H, .int .i64 B, .int .i64 S, .int .i64 y, .int .i64 p, .int .i64 (t + n), .int .i64 0, .int .i64 a], .bool true]) ∧ Below w.heap.size w w' := by
  go_enter Try.func28, Try.ntmps28
  go_wp2_with fail
  exact bodyPost_ret (v := .tuple #[.agg #[.int .i64 W, .int .i64 H, .int .i64 B, .int .i64 S, .int .i64 y, .int .i64 p, .int .i64 (t + n), .int .i64 0, .int .i64 a], .bool true]) (by simp [results, Try.results28, go_sem]) rfl ⟨rfl, two_below _ _ _⟩

set_option maxRecDepth 100000 in
theorem r2give_n1 {W H B S y p t r a : Int} (n : Int) (w : World) (g0 : 0 ≤ y) (g1 : y ≤ B) (g2 : B ≤ 9223372036854775807) (h : n < 0) :
    Calls Try.prog 26 #[.agg #[.int .i64 W, .int .i64 H, .int .i64 B, .int .i64 S, .int .i64 y, .int .i64 p, .int .i64 t, .int .i64 r, .int .i64 a], .int .i64 n] w fun e w' => e = .returned (.tuple #[.agg #[.int .i64 W, .int .i64 H, .int .i64 B, .int .i64 S, .int .i64 y, .int .i64 p, .int .i64 t, .int .i64 r, .int .i64 a], .bool false]) ∧ Below w.heap.size w w' := by
  go_enter Try.func26, Try.ntmps26
  go_wp2_with fail
  exact bodyPost_ret (v := .tuple #[.agg #[.int .i64 W, .int .i64 H, .int .i64 B, .int .i64 S, .int .i64 y, .int .i64 p, .int .i64 t, .int .i64 r, .int .i64 a], .bool false]) (by simp [results, Try.results26, go_sem]) rfl ⟨rfl, two_below _ _ _⟩

set_option maxRecDepth 100000 in
theorem r2give_n2 {W H B S y p t r a : Int} (n : Int) (w : World) (g0 : 0 ≤ y) (g1 : y ≤ B) (g2 : B ≤ 9223372036854775807) (h : ¬ n < 0) (h1 : y < n) :
    Calls Try.prog 26 #[.agg #[.int .i64 W, .int .i64 H, .int .i64 B, .int .i64 S, .int .i64 y, .int .i64 p, .int .i64 t, .int .i64 r, .int .i64 a], .int .i64 n] w fun e w' => e = .returned (.tuple #[.agg #[.int .i64 W, .int .i64 H, .int .i64 B, .int .i64 S, .int .i64 y, .int .i64 p, .int .i64 t, .int .i64 r, .int .i64 a], .bool false]) ∧ Below w.heap.size w w' := by
  go_enter Try.func26, Try.ntmps26
  go_wp2_with fail
  exact bodyPost_ret (v := .tuple #[.agg #[.int .i64 W, .int .i64 H, .int .i64 B, .int .i64 S, .int .i64 y, .int .i64 p, .int .i64 t, .int .i64 r, .int .i64 a], .bool false]) (by simp [results, Try.results26, go_sem]) rfl ⟨rfl, two_below _ _ _⟩

set_option maxRecDepth 100000 in
theorem r2give_y {W H B S y p t r a : Int} (n : Int) (w : World) (g0 : 0 ≤ y) (g1 : y ≤ B) (g2 : B ≤ 9223372036854775807) (h : ¬ n < 0) (h1 : ¬ y < n) :
    Calls Try.prog 26 #[.agg #[.int .i64 W, .int .i64 H, .int .i64 B, .int .i64 S, .int .i64 y, .int .i64 p, .int .i64 t, .int .i64 r, .int .i64 a], .int .i64 n] w fun e w' => e = .returned (.tuple #[.agg #[.int .i64 W, .int .i64 H, .int .i64 B, .int .i64 S, .int .i64 (y - n), .int .i64 p, .int .i64 t, .int .i64 r, .int .i64 a], .bool true]) ∧ Below w.heap.size w w' := by
  go_enter Try.func26, Try.ntmps26
  go_wp2_with fail
  exact bodyPost_ret (v := .tuple #[.agg #[.int .i64 W, .int .i64 H, .int .i64 B, .int .i64 S, .int .i64 (y - n), .int .i64 p, .int .i64 t, .int .i64 r, .int .i64 a], .bool true]) (by simp [results, Try.results26, go_sem]) rfl ⟨rfl, two_below _ _ _⟩

theorem r2sides_any (x : Led) (n m : Int) (w : World) (ok : x.Ok) :
    Calls Try.prog 22 #[.agg #[.int .i64 x.W, .int .i64 x.H, .int .i64 x.B, .int .i64 x.S, .int .i64 x.bytes, .int .i64 x.peak, .int .i64 x.steps, .int .i64 x.reason, .int .i64 x.asked], .int .i64 n, .int .i64 m] w fun e w' => e = .returned (.tuple #[.agg #[.int .i64 (x.sides n m).1.W, .int .i64 (x.sides n m).1.H, .int .i64 (x.sides n m).1.B, .int .i64 (x.sides n m).1.S, .int .i64 (x.sides n m).1.bytes, .int .i64 (x.sides n m).1.peak, .int .i64 (x.sides n m).1.steps, .int .i64 (x.sides n m).1.reason, .int .i64 (x.sides n m).1.asked], .bool (x.sides n m).2]) ∧ Below w.heap.size w w' := by
  have y0 := ok.y0
  have y1 := ok.y1
  have b1 := ok.b1
  have s1 := ok.s1
  have t0 := ok.t0
  have t1 := ok.t1
  clear ok
  cases x with | mk W H B S y p t r a =>
  simp only at y0 y1 b1 s1 t0 t1
  unfold Led.sides
  by_cases hr : r = 0
  · subst hr
    by_cases h : n < 1
    · simp only [ne_eq, not_true_eq_false, if_false, h, true_or, if_true]; exact r2sides_w1 n m w h
    · by_cases h1 : W < n
      · simp only [ne_eq, not_true_eq_false, if_false, h, h1, false_or, if_true]; exact r2sides_w2 n m w h h1
      · by_cases h2 : m < 1
        · simp only [ne_eq, not_true_eq_false, if_false, h, h1, h2, false_or, true_or, if_true]; exact r2sides_h1 n m w h h1 h2
        · by_cases h3 : H < m
          · simp only [ne_eq, not_true_eq_false, if_false, h, h1, h2, h3, false_or, if_true]; exact r2sides_h2 n m w h h1 h2 h3
          · simp only [ne_eq, not_true_eq_false, if_false, h, h1, h2, h3, false_or]; exact r2sides_y n m w h h1 h2 h3
  · simp only [ne_eq, hr, not_false_eq_true, if_true]; exact r2sides_b n m w hr

theorem r2take_any (x : Led) (n : Int) (w : World) (ok : x.Ok) :
    Calls Try.prog 24 #[.agg #[.int .i64 x.W, .int .i64 x.H, .int .i64 x.B, .int .i64 x.S, .int .i64 x.bytes, .int .i64 x.peak, .int .i64 x.steps, .int .i64 x.reason, .int .i64 x.asked], .int .i64 n] w fun e w' => e = .returned (.tuple #[.agg #[.int .i64 (x.take n).1.W, .int .i64 (x.take n).1.H, .int .i64 (x.take n).1.B, .int .i64 (x.take n).1.S, .int .i64 (x.take n).1.bytes, .int .i64 (x.take n).1.peak, .int .i64 (x.take n).1.steps, .int .i64 (x.take n).1.reason, .int .i64 (x.take n).1.asked], .bool (x.take n).2]) ∧ Below w.heap.size w w' := by
  have y0 := ok.y0
  have y1 := ok.y1
  have b1 := ok.b1
  have s1 := ok.s1
  have t0 := ok.t0
  have t1 := ok.t1
  clear ok
  cases x with | mk W H B S y p t r a =>
  simp only at y0 y1 b1 s1 t0 t1
  unfold Led.take
  by_cases hr : r = 0
  · subst hr
    by_cases h : n < 0
    · simp only [ne_eq, not_true_eq_false, if_false, h, true_or, if_true]; exact r2take_n1 n w y0 y1 b1 h
    · by_cases h1 : B - y < n
      · simp only [ne_eq, not_true_eq_false, if_false, h, h1, false_or, if_true]; exact r2take_n2 n w y0 y1 b1 h h1
      · by_cases h2 : p < y + n
        · simp only [ne_eq, not_true_eq_false, if_false, h, h1, h2, false_or, if_true]; exact r2take_p n w y0 y1 b1 h h1 h2
        · simp only [ne_eq, not_true_eq_false, if_false, h, h1, h2, false_or]; exact r2take_q n w y0 y1 b1 h h1 h2
  · simp only [ne_eq, hr, not_false_eq_true, if_true]; exact r2take_b n w hr

theorem r2work_any (x : Led) (n : Int) (w : World) (ok : x.Ok) :
    Calls Try.prog 28 #[.agg #[.int .i64 x.W, .int .i64 x.H, .int .i64 x.B, .int .i64 x.S, .int .i64 x.bytes, .int .i64 x.peak, .int .i64 x.steps, .int .i64 x.reason, .int .i64 x.asked], .int .i64 n] w fun e w' => e = .returned (.tuple #[.agg #[.int .i64 (x.work n).1.W, .int .i64 (x.work n).1.H, .int .i64 (x.work n).1.B, .int .i64 (x.work n).1.S, .int .i64 (x.work n).1.bytes, .int .i64 (x.work n).1.peak, .int .i64 (x.work n).1.steps, .int .i64 (x.work n).1.reason, .int .i64 (x.work n).1.asked], .bool (x.work n).2]) ∧ Below w.heap.size w w' := by
  have y0 := ok.y0
  have y1 := ok.y1
  have b1 := ok.b1
  have s1 := ok.s1
  have t0 := ok.t0
  have t1 := ok.t1
  clear ok
  cases x with | mk W H B S y p t r a =>
  simp only at y0 y1 b1 s1 t0 t1
  unfold Led.work
  by_cases hr : r = 0
  · subst hr
    by_cases h : n < 0
    · simp only [ne_eq, not_true_eq_false, if_false, h, true_or, if_true]; exact r2work_n1 n w t0 t1 s1 h
    · by_cases h1 : S - t < n
      · simp only [ne_eq, not_true_eq_false, if_false, h, h1, false_or, if_true]; exact r2work_n2 n w t0 t1 s1 h h1
      · simp only [ne_eq, not_true_eq_false, if_false, h, h1, false_or]; exact r2work_y n w t0 t1 s1 h h1
  · simp only [ne_eq, hr, not_false_eq_true, if_true]; exact r2work_b n w hr

theorem r2give_any (x : Led) (n : Int) (w : World) (ok : x.Ok) :
    Calls Try.prog 26 #[.agg #[.int .i64 x.W, .int .i64 x.H, .int .i64 x.B, .int .i64 x.S, .int .i64 x.bytes, .int .i64 x.peak, .int .i64 x.steps, .int .i64 x.reason, .int .i64 x.asked], .int .i64 n] w fun e w' => e = .returned (.tuple #[.agg #[.int .i64 (x.give n).1.W, .int .i64 (x.give n).1.H, .int .i64 (x.give n).1.B, .int .i64 (x.give n).1.S, .int .i64 (x.give n).1.bytes, .int .i64 (x.give n).1.peak, .int .i64 (x.give n).1.steps, .int .i64 (x.give n).1.reason, .int .i64 (x.give n).1.asked], .bool (x.give n).2]) ∧ Below w.heap.size w w' := by
  have y0 := ok.y0
  have y1 := ok.y1
  have b1 := ok.b1
  have s1 := ok.s1
  have t0 := ok.t0
  have t1 := ok.t1
  clear ok
  cases x with | mk W H B S y p t r a =>
  simp only at y0 y1 b1 s1 t0 t1
  unfold Led.give
  by_cases h : n < 0
  · simp only [h, true_or, if_true]; exact r2give_n1 n w y0 y1 b1 h
  · by_cases h1 : y < n
    · simp only [h, h1, false_or, if_true]; exact r2give_n2 n w y0 y1 b1 h h1
    · simp only [h, h1, false_or, if_false]; exact r2give_y n w y0 y1 b1 h h1

end Go.Proofs.Ytbegielhfcebdaa

