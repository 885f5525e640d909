/- The law PnmheadSizes. -/
import Derived.Test.YtegoakfhadmblaaPnmAwake
import Derived.Test.YtegoakfhadmblaaPnmOpen
import Derived.Deep.RegionHeld3
import Derived.BigQuiet
namespace Go.Proofs.Ytegoakfhadmblaa
open Go.RowKit
set_option linter.unusedVariables false
set_option linter.unusedSimpArgs false

theorem textIs {K : Int} {b : Bool} (h : decide (1 ≤ K ∧ K ≤ 3) = b) (w : World) : Calls Try.prog 20 #[.int .i64 K] w fun e w' => e = .returned (.bool b) ∧ w = w' := by
  rw [← h]
  exact ptextI_any K w
theorem colorsIs {K : Int} {b : Bool} (h : decide (K = 3 ∨ K = 6) = b) (w : World) : Calls Try.prog 21 #[.int .i64 K] w fun e w' => e = .returned (.bool b) ∧ w = w' := by
  rw [← h]
  exact pcolors_any K w

set_option maxRecDepth 100000 in
set_option maxHeartbeats 1000000 in
theorem sizes_k1 {W H M A : Int} {w : World}  : Calls Try.prog 4 #[.agg #[.int .i64 1, .int .i64 W, .int .i64 H, .int .i64 M, .int .i64 A]] w fun e w' => e = .returned (.bool true) ∧ Below w.heap.size w w' := by
  have HS : Hid (∀ w : World, Calls Try.prog 19 #[.agg #[.int .i64 1, .int .i64 W, .int .i64 H, .int .i64 M, .int .i64 A]] w fun e w' => e = .returned (.tuple #[.int .i64 0, .bool false]) ∧ Below w.heap.size w w') := Lib.hid (fun w => psize_k4 (by decide))
  have HT := Lib.hid (fun w => textIs (K := 1) (b := true) (by decide) w)
  have HC := Lib.hid (fun w => colorsIs (K := 1) (b := false) (by decide) w)
  go_enter Try.func4, Try.ntmps4
  go_wp2_with (go_at_call 19; refine (HS.out _).mono ?_; rintro e w2 ⟨rfl, b2⟩; have c0 : w2.cell? ⟨w.heap.size, 0, none⟩ = some (.int .i64 1) := Blk.cell (Blk.below (Blk.new w _ _) b2 (by simp)) 0; have c1 : w2.cell? ⟨w.heap.size, 1, none⟩ = some (.int .i64 W) := Blk.cell (Blk.below (Blk.new w _ _) b2 (by simp)) 1; have c2 : w2.cell? ⟨w.heap.size, 2, none⟩ = some (.int .i64 H) := Blk.cell (Blk.below (Blk.new w _ _) b2 (by simp)) 2; have c3 : w2.cell? ⟨w.heap.size, 3, none⟩ = some (.int .i64 M) := Blk.cell (Blk.below (Blk.new w _ _) b2 (by simp)) 3; have c4 : w2.cell? ⟨w.heap.size, 4, none⟩ = some (.int .i64 A) := Blk.cell (Blk.below (Blk.new w _ _) b2 (by simp)) 4; have l2 := below_box_size b2)
  go_quiet (first
    | (go_at_call 20; exact Calls.quiet_of_same ((HT.out _).mono fun _ _ ⟨h, k⟩ => ⟨h, k.symm⟩))
    | (go_at_call 21; exact Calls.quiet_of_same ((HC.out _).mono fun _ _ ⟨h, k⟩ => ⟨h, k.symm⟩)))
  go_wp2_with (go_at_call 13; refine (awake12_any _).mono ?_; rintro e w5 ⟨rfl, b5⟩)
  go_ret
  exact ⟨rfl, (below_next ((Below.refl _ _).alloc (Nat.le_refl _) _) b2).trans ((show Below w2.heap.size w2 w5 from ⟨b5.os, b5.tape, b5.output, b5.size, b5.block⟩).mono (by have := b2.size; simp at this; omega))⟩

set_option maxRecDepth 100000 in
set_option maxHeartbeats 1000000 in
theorem sizes_k2 {W H M A : Int} {w : World}  : Calls Try.prog 4 #[.agg #[.int .i64 2, .int .i64 W, .int .i64 H, .int .i64 M, .int .i64 A]] w fun e w' => e = .returned (.bool true) ∧ Below w.heap.size w w' := by
  have HS : Hid (∀ w : World, Calls Try.prog 19 #[.agg #[.int .i64 2, .int .i64 W, .int .i64 H, .int .i64 M, .int .i64 A]] w fun e w' => e = .returned (.tuple #[.int .i64 0, .bool false]) ∧ Below w.heap.size w w') := Lib.hid (fun w => psize_k4 (by decide))
  have HT := Lib.hid (fun w => textIs (K := 2) (b := true) (by decide) w)
  have HC := Lib.hid (fun w => colorsIs (K := 2) (b := false) (by decide) w)
  go_enter Try.func4, Try.ntmps4
  go_wp2_with (go_at_call 19; refine (HS.out _).mono ?_; rintro e w2 ⟨rfl, b2⟩; have c0 : w2.cell? ⟨w.heap.size, 0, none⟩ = some (.int .i64 2) := Blk.cell (Blk.below (Blk.new w _ _) b2 (by simp)) 0; have c1 : w2.cell? ⟨w.heap.size, 1, none⟩ = some (.int .i64 W) := Blk.cell (Blk.below (Blk.new w _ _) b2 (by simp)) 1; have c2 : w2.cell? ⟨w.heap.size, 2, none⟩ = some (.int .i64 H) := Blk.cell (Blk.below (Blk.new w _ _) b2 (by simp)) 2; have c3 : w2.cell? ⟨w.heap.size, 3, none⟩ = some (.int .i64 M) := Blk.cell (Blk.below (Blk.new w _ _) b2 (by simp)) 3; have c4 : w2.cell? ⟨w.heap.size, 4, none⟩ = some (.int .i64 A) := Blk.cell (Blk.below (Blk.new w _ _) b2 (by simp)) 4; have l2 := below_box_size b2)
  go_quiet (first
    | (go_at_call 20; exact Calls.quiet_of_same ((HT.out _).mono fun _ _ ⟨h, k⟩ => ⟨h, k.symm⟩))
    | (go_at_call 21; exact Calls.quiet_of_same ((HC.out _).mono fun _ _ ⟨h, k⟩ => ⟨h, k.symm⟩)))
  go_wp2_with (go_at_call 13; refine (awake12_any _).mono ?_; rintro e w5 ⟨rfl, b5⟩)
  go_ret
  exact ⟨rfl, (below_next ((Below.refl _ _).alloc (Nat.le_refl _) _) b2).trans ((show Below w2.heap.size w2 w5 from ⟨b5.os, b5.tape, b5.output, b5.size, b5.block⟩).mono (by have := b2.size; simp at this; omega))⟩

set_option maxRecDepth 100000 in
set_option maxHeartbeats 1000000 in
theorem sizes_k3 {W H M A : Int} {w : World}  : Calls Try.prog 4 #[.agg #[.int .i64 3, .int .i64 W, .int .i64 H, .int .i64 M, .int .i64 A]] w fun e w' => e = .returned (.bool true) ∧ Below w.heap.size w w' := by
  have HS : Hid (∀ w : World, Calls Try.prog 19 #[.agg #[.int .i64 3, .int .i64 W, .int .i64 H, .int .i64 M, .int .i64 A]] w fun e w' => e = .returned (.tuple #[.int .i64 0, .bool false]) ∧ Below w.heap.size w w') := Lib.hid (fun w => psize_k4 (by decide))
  have HT := Lib.hid (fun w => textIs (K := 3) (b := true) (by decide) w)
  have HC := Lib.hid (fun w => colorsIs (K := 3) (b := true) (by decide) w)
  go_enter Try.func4, Try.ntmps4
  go_wp2_with (go_at_call 19; refine (HS.out _).mono ?_; rintro e w2 ⟨rfl, b2⟩; have c0 : w2.cell? ⟨w.heap.size, 0, none⟩ = some (.int .i64 3) := Blk.cell (Blk.below (Blk.new w _ _) b2 (by simp)) 0; have c1 : w2.cell? ⟨w.heap.size, 1, none⟩ = some (.int .i64 W) := Blk.cell (Blk.below (Blk.new w _ _) b2 (by simp)) 1; have c2 : w2.cell? ⟨w.heap.size, 2, none⟩ = some (.int .i64 H) := Blk.cell (Blk.below (Blk.new w _ _) b2 (by simp)) 2; have c3 : w2.cell? ⟨w.heap.size, 3, none⟩ = some (.int .i64 M) := Blk.cell (Blk.below (Blk.new w _ _) b2 (by simp)) 3; have c4 : w2.cell? ⟨w.heap.size, 4, none⟩ = some (.int .i64 A) := Blk.cell (Blk.below (Blk.new w _ _) b2 (by simp)) 4; have l2 := below_box_size b2)
  go_quiet (first
    | (go_at_call 20; exact Calls.quiet_of_same ((HT.out _).mono fun _ _ ⟨h, k⟩ => ⟨h, k.symm⟩))
    | (go_at_call 21; exact Calls.quiet_of_same ((HC.out _).mono fun _ _ ⟨h, k⟩ => ⟨h, k.symm⟩)))
  go_wp2_with (go_at_call 13; refine (awake12_any _).mono ?_; rintro e w5 ⟨rfl, b5⟩)
  go_ret
  exact ⟨rfl, (below_next ((Below.refl _ _).alloc (Nat.le_refl _) _) b2).trans ((show Below w2.heap.size w2 w5 from ⟨b5.os, b5.tape, b5.output, b5.size, b5.block⟩).mono (by have := b2.size; simp at this; omega))⟩

set_option maxRecDepth 100000 in
set_option maxHeartbeats 1000000 in
theorem sizes_low {K W H M A : Int} {w : World} (h : K < 1) : Calls Try.prog 4 #[.agg #[.int .i64 K, .int .i64 W, .int .i64 H, .int .i64 M, .int .i64 A]] w fun e w' => e = .returned (.bool true) ∧ Below w.heap.size w w' := by
  have HS : Hid (∀ w : World, Calls Try.prog 19 #[.agg #[.int .i64 K, .int .i64 W, .int .i64 H, .int .i64 M, .int .i64 A]] w fun e w' => e = .returned (.tuple #[.int .i64 0, .bool false]) ∧ Below w.heap.size w w') := Lib.hid (fun w => psize_k4 (by omega))
  have HT := Lib.hid (fun w => textIs (K := K) (b := false) (by first | exact decide_eq_false (by omega) | exact decide_eq_true (by omega)) w)
  have HC := Lib.hid (fun w => colorsIs (K := K) (b := false) (by first | exact decide_eq_false (by omega) | exact decide_eq_true (by omega)) w)
  have a1 : ¬ 4 ≤ K := by omega
  have n1 : ¬ K = 1 := by omega
  have n2 : ¬ K = 2 := by omega
  have n3 : ¬ K = 3 := by omega
  have n6 : ¬ K = 6 := by omega
  have u1 : (K == 1) = false := beq_eq_false_iff_ne.2 (by omega)
  have u2 : (K == 2) = false := beq_eq_false_iff_ne.2 (by omega)
  have u3 : (K == 3) = false := beq_eq_false_iff_ne.2 (by omega)
  have u6 : (K == 6) = false := beq_eq_false_iff_ne.2 (by omega)
  go_enter Try.func4, Try.ntmps4
  go_wp2_with (go_at_call 19; refine (HS.out _).mono ?_; rintro e w2 ⟨rfl, b2⟩; have c0 : w2.cell? ⟨w.heap.size, 0, none⟩ = some (.int .i64 K) := Blk.cell (Blk.below (Blk.new w _ _) b2 (by simp)) 0; have c1 : w2.cell? ⟨w.heap.size, 1, none⟩ = some (.int .i64 W) := Blk.cell (Blk.below (Blk.new w _ _) b2 (by simp)) 1; have c2 : w2.cell? ⟨w.heap.size, 2, none⟩ = some (.int .i64 H) := Blk.cell (Blk.below (Blk.new w _ _) b2 (by simp)) 2; have c3 : w2.cell? ⟨w.heap.size, 3, none⟩ = some (.int .i64 M) := Blk.cell (Blk.below (Blk.new w _ _) b2 (by simp)) 3; have c4 : w2.cell? ⟨w.heap.size, 4, none⟩ = some (.int .i64 A) := Blk.cell (Blk.below (Blk.new w _ _) b2 (by simp)) 4; have l2 := below_box_size b2)
  go_quiet (first
    | (go_at_call 20; exact Calls.quiet_of_same ((HT.out _).mono fun _ _ ⟨h, k⟩ => ⟨h, k.symm⟩))
    | (go_at_call 21; exact Calls.quiet_of_same ((HC.out _).mono fun _ _ ⟨h, k⟩ => ⟨h, k.symm⟩)))
  go_wp2_with (go_at_call 13; refine (awake12_any _).mono ?_; rintro e w5 ⟨rfl, b5⟩)
  go_ret
  exact ⟨rfl, (below_next ((Below.refl _ _).alloc (Nat.le_refl _) _) b2).trans ((show Below w2.heap.size w2 w5 from ⟨b5.os, b5.tape, b5.output, b5.size, b5.block⟩).mono (by have := b2.size; simp at this; omega))⟩

set_option maxRecDepth 100000 in
set_option maxHeartbeats 1000000 in
theorem sizes_high {K W H M A : Int} {w : World} (h : 6 < K) : Calls Try.prog 4 #[.agg #[.int .i64 K, .int .i64 W, .int .i64 H, .int .i64 M, .int .i64 A]] w fun e w' => e = .returned (.bool true) ∧ Below w.heap.size w w' := by
  have HS : Hid (∀ w : World, Calls Try.prog 19 #[.agg #[.int .i64 K, .int .i64 W, .int .i64 H, .int .i64 M, .int .i64 A]] w fun e w' => e = .returned (.tuple #[.int .i64 0, .bool false]) ∧ Below w.heap.size w w') := Lib.hid (fun w => psize_k6 h)
  have HT := Lib.hid (fun w => textIs (K := K) (b := false) (by first | exact decide_eq_false (by omega) | exact decide_eq_true (by omega)) w)
  have HC := Lib.hid (fun w => colorsIs (K := K) (b := false) (by first | exact decide_eq_false (by omega) | exact decide_eq_true (by omega)) w)
  have a1 : 4 ≤ K := by omega
  have a2 : ¬ K ≤ 6 := by omega
  have n1 : ¬ K = 1 := by omega
  have n2 : ¬ K = 2 := by omega
  have n3 : ¬ K = 3 := by omega
  have n6 : ¬ K = 6 := by omega
  have u1 : (K == 1) = false := beq_eq_false_iff_ne.2 (by omega)
  have u2 : (K == 2) = false := beq_eq_false_iff_ne.2 (by omega)
  have u3 : (K == 3) = false := beq_eq_false_iff_ne.2 (by omega)
  have u6 : (K == 6) = false := beq_eq_false_iff_ne.2 (by omega)
  go_enter Try.func4, Try.ntmps4
  go_wp2_with (go_at_call 19; refine (HS.out _).mono ?_; rintro e w2 ⟨rfl, b2⟩; have c0 : w2.cell? ⟨w.heap.size, 0, none⟩ = some (.int .i64 K) := Blk.cell (Blk.below (Blk.new w _ _) b2 (by simp)) 0; have c1 : w2.cell? ⟨w.heap.size, 1, none⟩ = some (.int .i64 W) := Blk.cell (Blk.below (Blk.new w _ _) b2 (by simp)) 1; have c2 : w2.cell? ⟨w.heap.size, 2, none⟩ = some (.int .i64 H) := Blk.cell (Blk.below (Blk.new w _ _) b2 (by simp)) 2; have c3 : w2.cell? ⟨w.heap.size, 3, none⟩ = some (.int .i64 M) := Blk.cell (Blk.below (Blk.new w _ _) b2 (by simp)) 3; have c4 : w2.cell? ⟨w.heap.size, 4, none⟩ = some (.int .i64 A) := Blk.cell (Blk.below (Blk.new w _ _) b2 (by simp)) 4; have l2 := below_box_size b2)
  go_quiet (first
    | (go_at_call 20; exact Calls.quiet_of_same ((HT.out _).mono fun _ _ ⟨h, k⟩ => ⟨h, k.symm⟩))
    | (go_at_call 21; exact Calls.quiet_of_same ((HC.out _).mono fun _ _ ⟨h, k⟩ => ⟨h, k.symm⟩)))
  go_wp2_with (go_at_call 13; refine (awake12_any _).mono ?_; rintro e w5 ⟨rfl, b5⟩)
  go_ret
  exact ⟨rfl, (below_next ((Below.refl _ _).alloc (Nat.le_refl _) _) b2).trans ((show Below w2.heap.size w2 w5 from ⟨b5.os, b5.tape, b5.output, b5.size, b5.block⟩).mono (by have := b2.size; simp at this; omega))⟩

set_option maxRecDepth 100000 in
set_option maxHeartbeats 1000000 in
theorem sizes_six_0 {W H M A : Int} {w : World}  (bb : W < 1) : Calls Try.prog 4 #[.agg #[.int .i64 6, .int .i64 W, .int .i64 H, .int .i64 M, .int .i64 A]] w fun e w' => e = .returned (.bool true) ∧ Below w.heap.size w w' := by
  have HS : Hid (∀ w : World, Calls Try.prog 19 #[.agg #[.int .i64 6, .int .i64 W, .int .i64 H, .int .i64 M, .int .i64 A]] w fun e w' => e = .returned (.tuple #[.int .i64 0, .bool false]) ∧ Below w.heap.size w w') := Lib.hid (fun w => psize_w (by omega) (by omega))
  have HT := Lib.hid (fun w => textIs (K := 6) (b := false) (by decide) w)
  have HC := Lib.hid (fun w => colorsIs (K := 6) (b := true) (by decide) w)
  have a9 : ¬ 1 ≤ W := by omega
  go_enter Try.func4, Try.ntmps4
  go_wp2_with (go_at_call 19; refine (HS.out _).mono ?_; rintro e w2 ⟨rfl, b2⟩; have c0 : w2.cell? ⟨w.heap.size, 0, none⟩ = some (.int .i64 6) := Blk.cell (Blk.below (Blk.new w _ _) b2 (by simp)) 0; have c1 : w2.cell? ⟨w.heap.size, 1, none⟩ = some (.int .i64 W) := Blk.cell (Blk.below (Blk.new w _ _) b2 (by simp)) 1; have c2 : w2.cell? ⟨w.heap.size, 2, none⟩ = some (.int .i64 H) := Blk.cell (Blk.below (Blk.new w _ _) b2 (by simp)) 2; have c3 : w2.cell? ⟨w.heap.size, 3, none⟩ = some (.int .i64 M) := Blk.cell (Blk.below (Blk.new w _ _) b2 (by simp)) 3; have c4 : w2.cell? ⟨w.heap.size, 4, none⟩ = some (.int .i64 A) := Blk.cell (Blk.below (Blk.new w _ _) b2 (by simp)) 4; have l2 := below_box_size b2)
  go_quiet (first
    | (go_at_call 20; exact Calls.quiet_of_same ((HT.out _).mono fun _ _ ⟨h, k⟩ => ⟨h, k.symm⟩))
    | (go_at_call 21; exact Calls.quiet_of_same ((HC.out _).mono fun _ _ ⟨h, k⟩ => ⟨h, k.symm⟩)))
  go_wp2_with (go_at_call 13; refine (awake12_any _).mono ?_; rintro e w5 ⟨rfl, b5⟩)
  go_ret
  exact ⟨rfl, (below_next ((Below.refl _ _).alloc (Nat.le_refl _) _) b2).trans ((show Below w2.heap.size w2 w5 from ⟨b5.os, b5.tape, b5.output, b5.size, b5.block⟩).mono (by have := b2.size; simp at this; omega))⟩

set_option maxRecDepth 100000 in
set_option maxHeartbeats 1000000 in
theorem sizes_six_1 {W H M A : Int} {w : World} (g0 : 1 ≤ W) (bb : 16384 < W) : Calls Try.prog 4 #[.agg #[.int .i64 6, .int .i64 W, .int .i64 H, .int .i64 M, .int .i64 A]] w fun e w' => e = .returned (.bool true) ∧ Below w.heap.size w w' := by
  have HS : Hid (∀ w : World, Calls Try.prog 19 #[.agg #[.int .i64 6, .int .i64 W, .int .i64 H, .int .i64 M, .int .i64 A]] w fun e w' => e = .returned (.tuple #[.int .i64 0, .bool false]) ∧ Below w.heap.size w w') := Lib.hid (fun w => psize_w (by omega) (by omega))
  have HT := Lib.hid (fun w => textIs (K := 6) (b := false) (by decide) w)
  have HC := Lib.hid (fun w => colorsIs (K := 6) (b := true) (by decide) w)
  have a9 : ¬ W ≤ 16384 := by omega
  go_enter Try.func4, Try.ntmps4
  go_wp2_with (go_at_call 19; refine (HS.out _).mono ?_; rintro e w2 ⟨rfl, b2⟩; have c0 : w2.cell? ⟨w.heap.size, 0, none⟩ = some (.int .i64 6) := Blk.cell (Blk.below (Blk.new w _ _) b2 (by simp)) 0; have c1 : w2.cell? ⟨w.heap.size, 1, none⟩ = some (.int .i64 W) := Blk.cell (Blk.below (Blk.new w _ _) b2 (by simp)) 1; have c2 : w2.cell? ⟨w.heap.size, 2, none⟩ = some (.int .i64 H) := Blk.cell (Blk.below (Blk.new w _ _) b2 (by simp)) 2; have c3 : w2.cell? ⟨w.heap.size, 3, none⟩ = some (.int .i64 M) := Blk.cell (Blk.below (Blk.new w _ _) b2 (by simp)) 3; have c4 : w2.cell? ⟨w.heap.size, 4, none⟩ = some (.int .i64 A) := Blk.cell (Blk.below (Blk.new w _ _) b2 (by simp)) 4; have l2 := below_box_size b2)
  go_quiet (first
    | (go_at_call 20; exact Calls.quiet_of_same ((HT.out _).mono fun _ _ ⟨h, k⟩ => ⟨h, k.symm⟩))
    | (go_at_call 21; exact Calls.quiet_of_same ((HC.out _).mono fun _ _ ⟨h, k⟩ => ⟨h, k.symm⟩)))
  go_wp2_with (go_at_call 13; refine (awake12_any _).mono ?_; rintro e w5 ⟨rfl, b5⟩)
  go_ret
  exact ⟨rfl, (below_next ((Below.refl _ _).alloc (Nat.le_refl _) _) b2).trans ((show Below w2.heap.size w2 w5 from ⟨b5.os, b5.tape, b5.output, b5.size, b5.block⟩).mono (by have := b2.size; simp at this; omega))⟩

set_option maxRecDepth 100000 in
set_option maxHeartbeats 1000000 in
theorem sizes_six_2 {W H M A : Int} {w : World} (g0 : 1 ≤ W) (g1 : W ≤ 16384) (bb : H < 1) : Calls Try.prog 4 #[.agg #[.int .i64 6, .int .i64 W, .int .i64 H, .int .i64 M, .int .i64 A]] w fun e w' => e = .returned (.bool true) ∧ Below w.heap.size w w' := by
  have HS : Hid (∀ w : World, Calls Try.prog 19 #[.agg #[.int .i64 6, .int .i64 W, .int .i64 H, .int .i64 M, .int .i64 A]] w fun e w' => e = .returned (.tuple #[.int .i64 0, .bool false]) ∧ Below w.heap.size w w') := Lib.hid (fun w => psize_h (by omega) (by omega) (by omega))
  have HT := Lib.hid (fun w => textIs (K := 6) (b := false) (by decide) w)
  have HC := Lib.hid (fun w => colorsIs (K := 6) (b := true) (by decide) w)
  have a9 : ¬ 1 ≤ H := by omega
  go_enter Try.func4, Try.ntmps4
  go_wp2_with (go_at_call 19; refine (HS.out _).mono ?_; rintro e w2 ⟨rfl, b2⟩; have c0 : w2.cell? ⟨w.heap.size, 0, none⟩ = some (.int .i64 6) := Blk.cell (Blk.below (Blk.new w _ _) b2 (by simp)) 0; have c1 : w2.cell? ⟨w.heap.size, 1, none⟩ = some (.int .i64 W) := Blk.cell (Blk.below (Blk.new w _ _) b2 (by simp)) 1; have c2 : w2.cell? ⟨w.heap.size, 2, none⟩ = some (.int .i64 H) := Blk.cell (Blk.below (Blk.new w _ _) b2 (by simp)) 2; have c3 : w2.cell? ⟨w.heap.size, 3, none⟩ = some (.int .i64 M) := Blk.cell (Blk.below (Blk.new w _ _) b2 (by simp)) 3; have c4 : w2.cell? ⟨w.heap.size, 4, none⟩ = some (.int .i64 A) := Blk.cell (Blk.below (Blk.new w _ _) b2 (by simp)) 4; have l2 := below_box_size b2)
  go_quiet (first
    | (go_at_call 20; exact Calls.quiet_of_same ((HT.out _).mono fun _ _ ⟨h, k⟩ => ⟨h, k.symm⟩))
    | (go_at_call 21; exact Calls.quiet_of_same ((HC.out _).mono fun _ _ ⟨h, k⟩ => ⟨h, k.symm⟩)))
  go_wp2_with (go_at_call 13; refine (awake12_any _).mono ?_; rintro e w5 ⟨rfl, b5⟩)
  go_ret
  exact ⟨rfl, (below_next ((Below.refl _ _).alloc (Nat.le_refl _) _) b2).trans ((show Below w2.heap.size w2 w5 from ⟨b5.os, b5.tape, b5.output, b5.size, b5.block⟩).mono (by have := b2.size; simp at this; omega))⟩

set_option maxRecDepth 100000 in
set_option maxHeartbeats 1000000 in
theorem sizes_six_3 {W H M A : Int} {w : World} (g0 : 1 ≤ W) (g1 : W ≤ 16384) (g2 : 1 ≤ H) (bb : 16384 < H) : Calls Try.prog 4 #[.agg #[.int .i64 6, .int .i64 W, .int .i64 H, .int .i64 M, .int .i64 A]] w fun e w' => e = .returned (.bool true) ∧ Below w.heap.size w w' := by
  have HS : Hid (∀ w : World, Calls Try.prog 19 #[.agg #[.int .i64 6, .int .i64 W, .int .i64 H, .int .i64 M, .int .i64 A]] w fun e w' => e = .returned (.tuple #[.int .i64 0, .bool false]) ∧ Below w.heap.size w w') := Lib.hid (fun w => psize_h (by omega) (by omega) (by omega))
  have HT := Lib.hid (fun w => textIs (K := 6) (b := false) (by decide) w)
  have HC := Lib.hid (fun w => colorsIs (K := 6) (b := true) (by decide) w)
  have a9 : ¬ H ≤ 16384 := by omega
  go_enter Try.func4, Try.ntmps4
  go_wp2_with (go_at_call 19; refine (HS.out _).mono ?_; rintro e w2 ⟨rfl, b2⟩; have c0 : w2.cell? ⟨w.heap.size, 0, none⟩ = some (.int .i64 6) := Blk.cell (Blk.below (Blk.new w _ _) b2 (by simp)) 0; have c1 : w2.cell? ⟨w.heap.size, 1, none⟩ = some (.int .i64 W) := Blk.cell (Blk.below (Blk.new w _ _) b2 (by simp)) 1; have c2 : w2.cell? ⟨w.heap.size, 2, none⟩ = some (.int .i64 H) := Blk.cell (Blk.below (Blk.new w _ _) b2 (by simp)) 2; have c3 : w2.cell? ⟨w.heap.size, 3, none⟩ = some (.int .i64 M) := Blk.cell (Blk.below (Blk.new w _ _) b2 (by simp)) 3; have c4 : w2.cell? ⟨w.heap.size, 4, none⟩ = some (.int .i64 A) := Blk.cell (Blk.below (Blk.new w _ _) b2 (by simp)) 4; have l2 := below_box_size b2)
  go_quiet (first
    | (go_at_call 20; exact Calls.quiet_of_same ((HT.out _).mono fun _ _ ⟨h, k⟩ => ⟨h, k.symm⟩))
    | (go_at_call 21; exact Calls.quiet_of_same ((HC.out _).mono fun _ _ ⟨h, k⟩ => ⟨h, k.symm⟩)))
  go_wp2_with (go_at_call 13; refine (awake12_any _).mono ?_; rintro e w5 ⟨rfl, b5⟩)
  go_ret
  exact ⟨rfl, (below_next ((Below.refl _ _).alloc (Nat.le_refl _) _) b2).trans ((show Below w2.heap.size w2 w5 from ⟨b5.os, b5.tape, b5.output, b5.size, b5.block⟩).mono (by have := b2.size; simp at this; omega))⟩

set_option maxRecDepth 100000 in
set_option maxHeartbeats 1000000 in
theorem sizes_six_4 {W H M A : Int} {w : World} (g0 : 1 ≤ W) (g1 : W ≤ 16384) (g2 : 1 ≤ H) (g3 : H ≤ 16384) (bb : M < 1) : Calls Try.prog 4 #[.agg #[.int .i64 6, .int .i64 W, .int .i64 H, .int .i64 M, .int .i64 A]] w fun e w' => e = .returned (.bool true) ∧ Below w.heap.size w w' := by
  have HS : Hid (∀ w : World, Calls Try.prog 19 #[.agg #[.int .i64 6, .int .i64 W, .int .i64 H, .int .i64 M, .int .i64 A]] w fun e w' => e = .returned (.tuple #[.int .i64 0, .bool false]) ∧ Below w.heap.size w w') := Lib.hid (fun w => psize_m (by omega) (by omega) (by omega) (by omega))
  have HT := Lib.hid (fun w => textIs (K := 6) (b := false) (by decide) w)
  have HC := Lib.hid (fun w => colorsIs (K := 6) (b := true) (by decide) w)
  have a9 : ¬ 1 ≤ M := by omega
  go_enter Try.func4, Try.ntmps4
  go_wp2_with (go_at_call 19; refine (HS.out _).mono ?_; rintro e w2 ⟨rfl, b2⟩; have c0 : w2.cell? ⟨w.heap.size, 0, none⟩ = some (.int .i64 6) := Blk.cell (Blk.below (Blk.new w _ _) b2 (by simp)) 0; have c1 : w2.cell? ⟨w.heap.size, 1, none⟩ = some (.int .i64 W) := Blk.cell (Blk.below (Blk.new w _ _) b2 (by simp)) 1; have c2 : w2.cell? ⟨w.heap.size, 2, none⟩ = some (.int .i64 H) := Blk.cell (Blk.below (Blk.new w _ _) b2 (by simp)) 2; have c3 : w2.cell? ⟨w.heap.size, 3, none⟩ = some (.int .i64 M) := Blk.cell (Blk.below (Blk.new w _ _) b2 (by simp)) 3; have c4 : w2.cell? ⟨w.heap.size, 4, none⟩ = some (.int .i64 A) := Blk.cell (Blk.below (Blk.new w _ _) b2 (by simp)) 4; have l2 := below_box_size b2)
  go_quiet (first
    | (go_at_call 20; exact Calls.quiet_of_same ((HT.out _).mono fun _ _ ⟨h, k⟩ => ⟨h, k.symm⟩))
    | (go_at_call 21; exact Calls.quiet_of_same ((HC.out _).mono fun _ _ ⟨h, k⟩ => ⟨h, k.symm⟩)))
  go_wp2_with (go_at_call 13; refine (awake12_any _).mono ?_; rintro e w5 ⟨rfl, b5⟩)
  go_ret
  exact ⟨rfl, (below_next ((Below.refl _ _).alloc (Nat.le_refl _) _) b2).trans ((show Below w2.heap.size w2 w5 from ⟨b5.os, b5.tape, b5.output, b5.size, b5.block⟩).mono (by have := b2.size; simp at this; omega))⟩

set_option maxRecDepth 100000 in
set_option maxHeartbeats 1000000 in
theorem sizes_six_5 {W H M A : Int} {w : World} (g0 : 1 ≤ W) (g1 : W ≤ 16384) (g2 : 1 ≤ H) (g3 : H ≤ 16384) (g4 : 1 ≤ M) (bb : 65535 < M) : Calls Try.prog 4 #[.agg #[.int .i64 6, .int .i64 W, .int .i64 H, .int .i64 M, .int .i64 A]] w fun e w' => e = .returned (.bool true) ∧ Below w.heap.size w w' := by
  have HS : Hid (∀ w : World, Calls Try.prog 19 #[.agg #[.int .i64 6, .int .i64 W, .int .i64 H, .int .i64 M, .int .i64 A]] w fun e w' => e = .returned (.tuple #[.int .i64 0, .bool false]) ∧ Below w.heap.size w w') := Lib.hid (fun w => psize_m (by omega) (by omega) (by omega) (by omega))
  have HT := Lib.hid (fun w => textIs (K := 6) (b := false) (by decide) w)
  have HC := Lib.hid (fun w => colorsIs (K := 6) (b := true) (by decide) w)
  have a9 : ¬ M ≤ 65535 := by omega
  have a8 : decide (M ≤ 65535) = false := decide_eq_false (by omega)
  go_enter Try.func4, Try.ntmps4
  go_wp2_with (go_at_call 19; refine (HS.out _).mono ?_; rintro e w2 ⟨rfl, b2⟩; have c0 : w2.cell? ⟨w.heap.size, 0, none⟩ = some (.int .i64 6) := Blk.cell (Blk.below (Blk.new w _ _) b2 (by simp)) 0; have c1 : w2.cell? ⟨w.heap.size, 1, none⟩ = some (.int .i64 W) := Blk.cell (Blk.below (Blk.new w _ _) b2 (by simp)) 1; have c2 : w2.cell? ⟨w.heap.size, 2, none⟩ = some (.int .i64 H) := Blk.cell (Blk.below (Blk.new w _ _) b2 (by simp)) 2; have c3 : w2.cell? ⟨w.heap.size, 3, none⟩ = some (.int .i64 M) := Blk.cell (Blk.below (Blk.new w _ _) b2 (by simp)) 3; have c4 : w2.cell? ⟨w.heap.size, 4, none⟩ = some (.int .i64 A) := Blk.cell (Blk.below (Blk.new w _ _) b2 (by simp)) 4; have l2 := below_box_size b2)
  go_quiet (first
    | (go_at_call 20; exact Calls.quiet_of_same ((HT.out _).mono fun _ _ ⟨h, k⟩ => ⟨h, k.symm⟩))
    | (go_at_call 21; exact Calls.quiet_of_same ((HC.out _).mono fun _ _ ⟨h, k⟩ => ⟨h, k.symm⟩)))
  go_wp2_with (go_at_call 13; refine (awake12_any _).mono ?_; rintro e w5 ⟨rfl, b5⟩)
  go_ret
  exact ⟨rfl, (below_next ((Below.refl _ _).alloc (Nat.le_refl _) _) b2).trans ((show Below w2.heap.size w2 w5 from ⟨b5.os, b5.tape, b5.output, b5.size, b5.block⟩).mono (by have := b2.size; simp at this; omega))⟩

set_option maxRecDepth 100000 in
set_option maxHeartbeats 1000000 in
theorem sizes_ff_0 {K W H M A : Int} {w : World} (hk : K = 4 ∨ K = 5)  (bb : W < 1) : Calls Try.prog 4 #[.agg #[.int .i64 K, .int .i64 W, .int .i64 H, .int .i64 M, .int .i64 A]] w fun e w' => e = .returned (.bool true) ∧ Below w.heap.size w w' := by
  have HS : Hid (∀ w : World, Calls Try.prog 19 #[.agg #[.int .i64 K, .int .i64 W, .int .i64 H, .int .i64 M, .int .i64 A]] w fun e w' => e = .returned (.tuple #[.int .i64 0, .bool false]) ∧ Below w.heap.size w w') := Lib.hid (fun w => psize_w (by omega) (by omega))
  have HT := Lib.hid (fun w => textIs (K := K) (b := false) (by first | exact decide_eq_false (by omega) | exact decide_eq_true (by omega)) w)
  have HC := Lib.hid (fun w => colorsIs (K := K) (b := false) (by first | exact decide_eq_false (by omega) | exact decide_eq_true (by omega)) w)
  have a9 : ¬ 1 ≤ W := by omega
  have a1 : 4 ≤ K := by omega
  have a2 : K ≤ 6 := by omega
  have n1 : ¬ K = 1 := by omega
  have n2 : ¬ K = 2 := by omega
  have n3 : ¬ K = 3 := by omega
  have n6 : ¬ K = 6 := by omega
  have u1 : (K == 1) = false := beq_eq_false_iff_ne.2 (by omega)
  have u2 : (K == 2) = false := beq_eq_false_iff_ne.2 (by omega)
  have u3 : (K == 3) = false := beq_eq_false_iff_ne.2 (by omega)
  have u6 : (K == 6) = false := beq_eq_false_iff_ne.2 (by omega)
  go_enter Try.func4, Try.ntmps4
  go_wp2_with (go_at_call 19; refine (HS.out _).mono ?_; rintro e w2 ⟨rfl, b2⟩; have c0 : w2.cell? ⟨w.heap.size, 0, none⟩ = some (.int .i64 K) := Blk.cell (Blk.below (Blk.new w _ _) b2 (by simp)) 0; have c1 : w2.cell? ⟨w.heap.size, 1, none⟩ = some (.int .i64 W) := Blk.cell (Blk.below (Blk.new w _ _) b2 (by simp)) 1; have c2 : w2.cell? ⟨w.heap.size, 2, none⟩ = some (.int .i64 H) := Blk.cell (Blk.below (Blk.new w _ _) b2 (by simp)) 2; have c3 : w2.cell? ⟨w.heap.size, 3, none⟩ = some (.int .i64 M) := Blk.cell (Blk.below (Blk.new w _ _) b2 (by simp)) 3; have c4 : w2.cell? ⟨w.heap.size, 4, none⟩ = some (.int .i64 A) := Blk.cell (Blk.below (Blk.new w _ _) b2 (by simp)) 4; have l2 := below_box_size b2)
  go_quiet (first
    | (go_at_call 20; exact Calls.quiet_of_same ((HT.out _).mono fun _ _ ⟨h, k⟩ => ⟨h, k.symm⟩))
    | (go_at_call 21; exact Calls.quiet_of_same ((HC.out _).mono fun _ _ ⟨h, k⟩ => ⟨h, k.symm⟩)))
  go_wp2_with (go_at_call 13; refine (awake12_any _).mono ?_; rintro e w5 ⟨rfl, b5⟩)
  go_ret
  exact ⟨rfl, (below_next ((Below.refl _ _).alloc (Nat.le_refl _) _) b2).trans ((show Below w2.heap.size w2 w5 from ⟨b5.os, b5.tape, b5.output, b5.size, b5.block⟩).mono (by have := b2.size; simp at this; omega))⟩

set_option maxRecDepth 100000 in
set_option maxHeartbeats 1000000 in
theorem sizes_ff_1 {K W H M A : Int} {w : World} (hk : K = 4 ∨ K = 5) (g0 : 1 ≤ W) (bb : 16384 < W) : Calls Try.prog 4 #[.agg #[.int .i64 K, .int .i64 W, .int .i64 H, .int .i64 M, .int .i64 A]] w fun e w' => e = .returned (.bool true) ∧ Below w.heap.size w w' := by
  have HS : Hid (∀ w : World, Calls Try.prog 19 #[.agg #[.int .i64 K, .int .i64 W, .int .i64 H, .int .i64 M, .int .i64 A]] w fun e w' => e = .returned (.tuple #[.int .i64 0, .bool false]) ∧ Below w.heap.size w w') := Lib.hid (fun w => psize_w (by omega) (by omega))
  have HT := Lib.hid (fun w => textIs (K := K) (b := false) (by first | exact decide_eq_false (by omega) | exact decide_eq_true (by omega)) w)
  have HC := Lib.hid (fun w => colorsIs (K := K) (b := false) (by first | exact decide_eq_false (by omega) | exact decide_eq_true (by omega)) w)
  have a9 : ¬ W ≤ 16384 := by omega
  have a1 : 4 ≤ K := by omega
  have a2 : K ≤ 6 := by omega
  have n1 : ¬ K = 1 := by omega
  have n2 : ¬ K = 2 := by omega
  have n3 : ¬ K = 3 := by omega
  have n6 : ¬ K = 6 := by omega
  have u1 : (K == 1) = false := beq_eq_false_iff_ne.2 (by omega)
  have u2 : (K == 2) = false := beq_eq_false_iff_ne.2 (by omega)
  have u3 : (K == 3) = false := beq_eq_false_iff_ne.2 (by omega)
  have u6 : (K == 6) = false := beq_eq_false_iff_ne.2 (by omega)
  go_enter Try.func4, Try.ntmps4
  go_wp2_with (go_at_call 19; refine (HS.out _).mono ?_; rintro e w2 ⟨rfl, b2⟩; have c0 : w2.cell? ⟨w.heap.size, 0, none⟩ = some (.int .i64 K) := Blk.cell (Blk.below (Blk.new w _ _) b2 (by simp)) 0; have c1 : w2.cell? ⟨w.heap.size, 1, none⟩ = some (.int .i64 W) := Blk.cell (Blk.below (Blk.new w _ _) b2 (by simp)) 1; have c2 : w2.cell? ⟨w.heap.size, 2, none⟩ = some (.int .i64 H) := Blk.cell (Blk.below (Blk.new w _ _) b2 (by simp)) 2; have c3 : w2.cell? ⟨w.heap.size, 3, none⟩ = some (.int .i64 M) := Blk.cell (Blk.below (Blk.new w _ _) b2 (by simp)) 3; have c4 : w2.cell? ⟨w.heap.size, 4, none⟩ = some (.int .i64 A) := Blk.cell (Blk.below (Blk.new w _ _) b2 (by simp)) 4; have l2 := below_box_size b2)
  go_quiet (first
    | (go_at_call 20; exact Calls.quiet_of_same ((HT.out _).mono fun _ _ ⟨h, k⟩ => ⟨h, k.symm⟩))
    | (go_at_call 21; exact Calls.quiet_of_same ((HC.out _).mono fun _ _ ⟨h, k⟩ => ⟨h, k.symm⟩)))
  go_wp2_with (go_at_call 13; refine (awake12_any _).mono ?_; rintro e w5 ⟨rfl, b5⟩)
  go_ret
  exact ⟨rfl, (below_next ((Below.refl _ _).alloc (Nat.le_refl _) _) b2).trans ((show Below w2.heap.size w2 w5 from ⟨b5.os, b5.tape, b5.output, b5.size, b5.block⟩).mono (by have := b2.size; simp at this; omega))⟩

set_option maxRecDepth 100000 in
set_option maxHeartbeats 1000000 in
theorem sizes_ff_2 {K W H M A : Int} {w : World} (hk : K = 4 ∨ K = 5) (g0 : 1 ≤ W) (g1 : W ≤ 16384) (bb : H < 1) : Calls Try.prog 4 #[.agg #[.int .i64 K, .int .i64 W, .int .i64 H, .int .i64 M, .int .i64 A]] w fun e w' => e = .returned (.bool true) ∧ Below w.heap.size w w' := by
  have HS : Hid (∀ w : World, Calls Try.prog 19 #[.agg #[.int .i64 K, .int .i64 W, .int .i64 H, .int .i64 M, .int .i64 A]] w fun e w' => e = .returned (.tuple #[.int .i64 0, .bool false]) ∧ Below w.heap.size w w') := Lib.hid (fun w => psize_h (by omega) (by omega) (by omega))
  have HT := Lib.hid (fun w => textIs (K := K) (b := false) (by first | exact decide_eq_false (by omega) | exact decide_eq_true (by omega)) w)
  have HC := Lib.hid (fun w => colorsIs (K := K) (b := false) (by first | exact decide_eq_false (by omega) | exact decide_eq_true (by omega)) w)
  have a9 : ¬ 1 ≤ H := by omega
  have a1 : 4 ≤ K := by omega
  have a2 : K ≤ 6 := by omega
  have n1 : ¬ K = 1 := by omega
  have n2 : ¬ K = 2 := by omega
  have n3 : ¬ K = 3 := by omega
  have n6 : ¬ K = 6 := by omega
  have u1 : (K == 1) = false := beq_eq_false_iff_ne.2 (by omega)
  have u2 : (K == 2) = false := beq_eq_false_iff_ne.2 (by omega)
  have u3 : (K == 3) = false := beq_eq_false_iff_ne.2 (by omega)
  have u6 : (K == 6) = false := beq_eq_false_iff_ne.2 (by omega)
  go_enter Try.func4, Try.ntmps4
  go_wp2_with (go_at_call 19; refine (HS.out _).mono ?_; rintro e w2 ⟨rfl, b2⟩; have c0 : w2.cell? ⟨w.heap.size, 0, none⟩ = some (.int .i64 K) := Blk.cell (Blk.below (Blk.new w _ _) b2 (by simp)) 0; have c1 : w2.cell? ⟨w.heap.size, 1, none⟩ = some (.int .i64 W) := Blk.cell (Blk.below (Blk.new w _ _) b2 (by simp)) 1; have c2 : w2.cell? ⟨w.heap.size, 2, none⟩ = some (.int .i64 H) := Blk.cell (Blk.below (Blk.new w _ _) b2 (by simp)) 2; have c3 : w2.cell? ⟨w.heap.size, 3, none⟩ = some (.int .i64 M) := Blk.cell (Blk.below (Blk.new w _ _) b2 (by simp)) 3; have c4 : w2.cell? ⟨w.heap.size, 4, none⟩ = some (.int .i64 A) := Blk.cell (Blk.below (Blk.new w _ _) b2 (by simp)) 4; have l2 := below_box_size b2)
  go_quiet (first
    | (go_at_call 20; exact Calls.quiet_of_same ((HT.out _).mono fun _ _ ⟨h, k⟩ => ⟨h, k.symm⟩))
    | (go_at_call 21; exact Calls.quiet_of_same ((HC.out _).mono fun _ _ ⟨h, k⟩ => ⟨h, k.symm⟩)))
  go_wp2_with (go_at_call 13; refine (awake12_any _).mono ?_; rintro e w5 ⟨rfl, b5⟩)
  go_ret
  exact ⟨rfl, (below_next ((Below.refl _ _).alloc (Nat.le_refl _) _) b2).trans ((show Below w2.heap.size w2 w5 from ⟨b5.os, b5.tape, b5.output, b5.size, b5.block⟩).mono (by have := b2.size; simp at this; omega))⟩

set_option maxRecDepth 100000 in
set_option maxHeartbeats 1000000 in
theorem sizes_ff_3 {K W H M A : Int} {w : World} (hk : K = 4 ∨ K = 5) (g0 : 1 ≤ W) (g1 : W ≤ 16384) (g2 : 1 ≤ H) (bb : 16384 < H) : Calls Try.prog 4 #[.agg #[.int .i64 K, .int .i64 W, .int .i64 H, .int .i64 M, .int .i64 A]] w fun e w' => e = .returned (.bool true) ∧ Below w.heap.size w w' := by
  have HS : Hid (∀ w : World, Calls Try.prog 19 #[.agg #[.int .i64 K, .int .i64 W, .int .i64 H, .int .i64 M, .int .i64 A]] w fun e w' => e = .returned (.tuple #[.int .i64 0, .bool false]) ∧ Below w.heap.size w w') := Lib.hid (fun w => psize_h (by omega) (by omega) (by omega))
  have HT := Lib.hid (fun w => textIs (K := K) (b := false) (by first | exact decide_eq_false (by omega) | exact decide_eq_true (by omega)) w)
  have HC := Lib.hid (fun w => colorsIs (K := K) (b := false) (by first | exact decide_eq_false (by omega) | exact decide_eq_true (by omega)) w)
  have a9 : ¬ H ≤ 16384 := by omega
  have a1 : 4 ≤ K := by omega
  have a2 : K ≤ 6 := by omega
  have n1 : ¬ K = 1 := by omega
  have n2 : ¬ K = 2 := by omega
  have n3 : ¬ K = 3 := by omega
  have n6 : ¬ K = 6 := by omega
  have u1 : (K == 1) = false := beq_eq_false_iff_ne.2 (by omega)
  have u2 : (K == 2) = false := beq_eq_false_iff_ne.2 (by omega)
  have u3 : (K == 3) = false := beq_eq_false_iff_ne.2 (by omega)
  have u6 : (K == 6) = false := beq_eq_false_iff_ne.2 (by omega)
  go_enter Try.func4, Try.ntmps4
  go_wp2_with (go_at_call 19; refine (HS.out _).mono ?_; rintro e w2 ⟨rfl, b2⟩; have c0 : w2.cell? ⟨w.heap.size, 0, none⟩ = some (.int .i64 K) := Blk.cell (Blk.below (Blk.new w _ _) b2 (by simp)) 0; have c1 : w2.cell? ⟨w.heap.size, 1, none⟩ = some (.int .i64 W) := Blk.cell (Blk.below (Blk.new w _ _) b2 (by simp)) 1; have c2 : w2.cell? ⟨w.heap.size, 2, none⟩ = some (.int .i64 H) := Blk.cell (Blk.below (Blk.new w _ _) b2 (by simp)) 2; have c3 : w2.cell? ⟨w.heap.size, 3, none⟩ = some (.int .i64 M) := Blk.cell (Blk.below (Blk.new w _ _) b2 (by simp)) 3; have c4 : w2.cell? ⟨w.heap.size, 4, none⟩ = some (.int .i64 A) := Blk.cell (Blk.below (Blk.new w _ _) b2 (by simp)) 4; have l2 := below_box_size b2)
  go_quiet (first
    | (go_at_call 20; exact Calls.quiet_of_same ((HT.out _).mono fun _ _ ⟨h, k⟩ => ⟨h, k.symm⟩))
    | (go_at_call 21; exact Calls.quiet_of_same ((HC.out _).mono fun _ _ ⟨h, k⟩ => ⟨h, k.symm⟩)))
  go_wp2_with (go_at_call 13; refine (awake12_any _).mono ?_; rintro e w5 ⟨rfl, b5⟩)
  go_ret
  exact ⟨rfl, (below_next ((Below.refl _ _).alloc (Nat.le_refl _) _) b2).trans ((show Below w2.heap.size w2 w5 from ⟨b5.os, b5.tape, b5.output, b5.size, b5.block⟩).mono (by have := b2.size; simp at this; omega))⟩

set_option maxRecDepth 100000 in
set_option maxHeartbeats 1000000 in
theorem sizes_ff_4 {K W H M A : Int} {w : World} (hk : K = 4 ∨ K = 5) (g0 : 1 ≤ W) (g1 : W ≤ 16384) (g2 : 1 ≤ H) (g3 : H ≤ 16384) (bb : M < 1) : Calls Try.prog 4 #[.agg #[.int .i64 K, .int .i64 W, .int .i64 H, .int .i64 M, .int .i64 A]] w fun e w' => e = .returned (.bool true) ∧ Below w.heap.size w w' := by
  have HS : Hid (∀ w : World, Calls Try.prog 19 #[.agg #[.int .i64 K, .int .i64 W, .int .i64 H, .int .i64 M, .int .i64 A]] w fun e w' => e = .returned (.tuple #[.int .i64 0, .bool false]) ∧ Below w.heap.size w w') := Lib.hid (fun w => psize_m (by omega) (by omega) (by omega) (by omega))
  have HT := Lib.hid (fun w => textIs (K := K) (b := false) (by first | exact decide_eq_false (by omega) | exact decide_eq_true (by omega)) w)
  have HC := Lib.hid (fun w => colorsIs (K := K) (b := false) (by first | exact decide_eq_false (by omega) | exact decide_eq_true (by omega)) w)
  have a9 : ¬ 1 ≤ M := by omega
  have a1 : 4 ≤ K := by omega
  have a2 : K ≤ 6 := by omega
  have n1 : ¬ K = 1 := by omega
  have n2 : ¬ K = 2 := by omega
  have n3 : ¬ K = 3 := by omega
  have n6 : ¬ K = 6 := by omega
  have u1 : (K == 1) = false := beq_eq_false_iff_ne.2 (by omega)
  have u2 : (K == 2) = false := beq_eq_false_iff_ne.2 (by omega)
  have u3 : (K == 3) = false := beq_eq_false_iff_ne.2 (by omega)
  have u6 : (K == 6) = false := beq_eq_false_iff_ne.2 (by omega)
  go_enter Try.func4, Try.ntmps4
  go_wp2_with (go_at_call 19; refine (HS.out _).mono ?_; rintro e w2 ⟨rfl, b2⟩; have c0 : w2.cell? ⟨w.heap.size, 0, none⟩ = some (.int .i64 K) := Blk.cell (Blk.below (Blk.new w _ _) b2 (by simp)) 0; have c1 : w2.cell? ⟨w.heap.size, 1, none⟩ = some (.int .i64 W) := Blk.cell (Blk.below (Blk.new w _ _) b2 (by simp)) 1; have c2 : w2.cell? ⟨w.heap.size, 2, none⟩ = some (.int .i64 H) := Blk.cell (Blk.below (Blk.new w _ _) b2 (by simp)) 2; have c3 : w2.cell? ⟨w.heap.size, 3, none⟩ = some (.int .i64 M) := Blk.cell (Blk.below (Blk.new w _ _) b2 (by simp)) 3; have c4 : w2.cell? ⟨w.heap.size, 4, none⟩ = some (.int .i64 A) := Blk.cell (Blk.below (Blk.new w _ _) b2 (by simp)) 4; have l2 := below_box_size b2)
  go_quiet (first
    | (go_at_call 20; exact Calls.quiet_of_same ((HT.out _).mono fun _ _ ⟨h, k⟩ => ⟨h, k.symm⟩))
    | (go_at_call 21; exact Calls.quiet_of_same ((HC.out _).mono fun _ _ ⟨h, k⟩ => ⟨h, k.symm⟩)))
  go_wp2_with (go_at_call 13; refine (awake12_any _).mono ?_; rintro e w5 ⟨rfl, b5⟩)
  go_ret
  exact ⟨rfl, (below_next ((Below.refl _ _).alloc (Nat.le_refl _) _) b2).trans ((show Below w2.heap.size w2 w5 from ⟨b5.os, b5.tape, b5.output, b5.size, b5.block⟩).mono (by have := b2.size; simp at this; omega))⟩

set_option maxRecDepth 100000 in
set_option maxHeartbeats 1000000 in
theorem sizes_ff_5 {K W H M A : Int} {w : World} (hk : K = 4 ∨ K = 5) (g0 : 1 ≤ W) (g1 : W ≤ 16384) (g2 : 1 ≤ H) (g3 : H ≤ 16384) (g4 : 1 ≤ M) (bb : 65535 < M) : Calls Try.prog 4 #[.agg #[.int .i64 K, .int .i64 W, .int .i64 H, .int .i64 M, .int .i64 A]] w fun e w' => e = .returned (.bool true) ∧ Below w.heap.size w w' := by
  have HS : Hid (∀ w : World, Calls Try.prog 19 #[.agg #[.int .i64 K, .int .i64 W, .int .i64 H, .int .i64 M, .int .i64 A]] w fun e w' => e = .returned (.tuple #[.int .i64 0, .bool false]) ∧ Below w.heap.size w w') := Lib.hid (fun w => psize_m (by omega) (by omega) (by omega) (by omega))
  have HT := Lib.hid (fun w => textIs (K := K) (b := false) (by first | exact decide_eq_false (by omega) | exact decide_eq_true (by omega)) w)
  have HC := Lib.hid (fun w => colorsIs (K := K) (b := false) (by first | exact decide_eq_false (by omega) | exact decide_eq_true (by omega)) w)
  have a9 : ¬ M ≤ 65535 := by omega
  have a8 : decide (M ≤ 65535) = false := decide_eq_false (by omega)
  have a1 : 4 ≤ K := by omega
  have a2 : K ≤ 6 := by omega
  have n1 : ¬ K = 1 := by omega
  have n2 : ¬ K = 2 := by omega
  have n3 : ¬ K = 3 := by omega
  have n6 : ¬ K = 6 := by omega
  have u1 : (K == 1) = false := beq_eq_false_iff_ne.2 (by omega)
  have u2 : (K == 2) = false := beq_eq_false_iff_ne.2 (by omega)
  have u3 : (K == 3) = false := beq_eq_false_iff_ne.2 (by omega)
  have u6 : (K == 6) = false := beq_eq_false_iff_ne.2 (by omega)
  go_enter Try.func4, Try.ntmps4
  go_wp2_with (go_at_call 19; refine (HS.out _).mono ?_; rintro e w2 ⟨rfl, b2⟩; have c0 : w2.cell? ⟨w.heap.size, 0, none⟩ = some (.int .i64 K) := Blk.cell (Blk.below (Blk.new w _ _) b2 (by simp)) 0; have c1 : w2.cell? ⟨w.heap.size, 1, none⟩ = some (.int .i64 W) := Blk.cell (Blk.below (Blk.new w _ _) b2 (by simp)) 1; have c2 : w2.cell? ⟨w.heap.size, 2, none⟩ = some (.int .i64 H) := Blk.cell (Blk.below (Blk.new w _ _) b2 (by simp)) 2; have c3 : w2.cell? ⟨w.heap.size, 3, none⟩ = some (.int .i64 M) := Blk.cell (Blk.below (Blk.new w _ _) b2 (by simp)) 3; have c4 : w2.cell? ⟨w.heap.size, 4, none⟩ = some (.int .i64 A) := Blk.cell (Blk.below (Blk.new w _ _) b2 (by simp)) 4; have l2 := below_box_size b2)
  go_quiet (first
    | (go_at_call 20; exact Calls.quiet_of_same ((HT.out _).mono fun _ _ ⟨h, k⟩ => ⟨h, k.symm⟩))
    | (go_at_call 21; exact Calls.quiet_of_same ((HC.out _).mono fun _ _ ⟨h, k⟩ => ⟨h, k.symm⟩)))
  go_wp2_with (go_at_call 13; refine (awake12_any _).mono ?_; rintro e w5 ⟨rfl, b5⟩)
  go_ret
  exact ⟨rfl, (below_next ((Below.refl _ _).alloc (Nat.le_refl _) _) b2).trans ((show Below w2.heap.size w2 w5 from ⟨b5.os, b5.tape, b5.output, b5.size, b5.block⟩).mono (by have := b2.size; simp at this; omega))⟩

set_option maxRecDepth 100000 in
set_option maxHeartbeats 1000000 in
theorem sizes_y4 {W H M A r z : Int} {w : World} (g0 : 1 ≤ W) (g1 : W ≤ 16384) (g2 : 1 ≤ H) (g3 : H ≤ 16384) (g4 : 1 ≤ M) (g5 : M ≤ 65535) (hz0 : 0 ≤ z) (hz1 : z ≤ 1610612736) (hzi : H * r = z)
    (hS : ∀ w : World, Calls Try.prog 19 #[.agg #[.int .i64 4, .int .i64 W, .int .i64 H, .int .i64 M, .int .i64 A]] w fun e w' => e = .returned (.tuple #[.int .i64 z, .bool true]) ∧ Below w.heap.size w w')
    (hW : ∀ w : World, Calls Try.prog 22 #[.agg #[.int .i64 4, .int .i64 W, .int .i64 0, .int .i64 M, .int .i64 0, .int .i64 0, .int .i64 0]] w fun e w' => e = .returned (.int .i64 r) ∧ Below w.heap.size w w') : Calls Try.prog 4 #[.agg #[.int .i64 4, .int .i64 W, .int .i64 H, .int .i64 M, .int .i64 A]] w fun e w' => e = .returned (.bool true) ∧ Below w.heap.size w w' := by
  have HS := Lib.hid hS
  have HW := Lib.hid hW
  have HT := Lib.hid (fun w => textIs (K := (4)) (b := false) (by decide) w)
  have HC := Lib.hid (fun w => colorsIs (K := (4)) (b := false) (by decide) w)
  have HB := Lib.hid (And.intro hz0 (And.intro hz1 hzi))
  clear hz0 hz1 hzi hS hW
  have a8 : decide (M ≤ 65535) = true := decide_eq_true g5
  go_enter Try.func4, Try.ntmps4
  go_wp2_with (go_at_call 19; refine (HS.out _).mono ?_; rintro e w2 ⟨rfl, b2⟩; have c0 : w2.cell? ⟨w.heap.size, 0, none⟩ = some (.int .i64 4) := Blk.cell (Blk.below (Blk.new w _ _) b2 (by simp)) 0; have c1 : w2.cell? ⟨w.heap.size, 1, none⟩ = some (.int .i64 W) := Blk.cell (Blk.below (Blk.new w _ _) b2 (by simp)) 1; have c2 : w2.cell? ⟨w.heap.size, 2, none⟩ = some (.int .i64 H) := Blk.cell (Blk.below (Blk.new w _ _) b2 (by simp)) 2; have c3 : w2.cell? ⟨w.heap.size, 3, none⟩ = some (.int .i64 M) := Blk.cell (Blk.below (Blk.new w _ _) b2 (by simp)) 3; have c4 : w2.cell? ⟨w.heap.size, 4, none⟩ = some (.int .i64 A) := Blk.cell (Blk.below (Blk.new w _ _) b2 (by simp)) 4; have l2 := below_box_size b2)
  go_quiet (first
    | (go_at_call 20; exact Calls.quiet_of_same ((HT.out _).mono fun _ _ ⟨h, k⟩ => ⟨h, k.symm⟩))
    | (go_at_call 21; exact Calls.quiet_of_same ((HC.out _).mono fun _ _ ⟨h, k⟩ => ⟨h, k.symm⟩)))
  go_wp2_with fail
  have hwz : IntKind.i64.wrap (H * r) = z := by obtain ⟨hz0, hz1, hzi⟩ := HB.out; rw [hzi]; exact IntWalk.i64_in _ (by omega)
  go_region_held3 (fun w' => w'.cell? ⟨w.heap.size, 0, none⟩ = some (.int .i64 4) ∧ w'.cell? ⟨w.heap.size, 1, none⟩ = some (.int .i64 W) ∧ w'.cell? ⟨w.heap.size, 2, none⟩ = some (.int .i64 H) ∧ w'.cell? ⟨w.heap.size, 3, none⟩ = some (.int .i64 M))
    (first | exact ⟨c0, c1, c2, c3⟩ | go_keep | (go_split_ands; refine ⟨?_, ?_, ?_, ?_⟩ <;> (rw [hc5 _ _ (by first | omega | (simp; omega))]; assumption)) | (go_split_ands; refine ⟨?_, ?_, ?_, ?_⟩ <;> (rw [hc4 _ _ (by first | omega | (simp; omega))]; assumption)))
    (first | (go_at_call 22; refine (HW.out _).mono ?_; rintro e w4 ⟨rfl, hb4⟩; obtain ⟨hc4, hf4⟩ := bcell hb4; have hz4 := hb4.size; simp at hz4) | (go_at_call 13; refine (awake12_any _).mono ?_; rintro e w5 ⟨rfl, hb5⟩; obtain ⟨hc5, hf5⟩ := bcell hb5))
  go_wp2_with fail
  go_ret
  have z2 := below_next ((Below.refl _ _).alloc (Nat.le_refl _) _) b2
  have z4 : Below w2.heap.size w2 w4 := ⟨hb4.os, hb4.tape, hb4.output, hb4.size, hb4.block⟩
  have z5 : Below w4.heap.size w4 w5 := ⟨hb5.os, hb5.tape, hb5.output, hb5.size, hb5.block⟩
  have z24 := below_next z2 z4
  exact ⟨rfl, below_next z24 z5⟩

set_option maxRecDepth 100000 in
set_option maxHeartbeats 1000000 in
theorem sizes_y5 {W H M A r z : Int} {w : World} (g0 : 1 ≤ W) (g1 : W ≤ 16384) (g2 : 1 ≤ H) (g3 : H ≤ 16384) (g4 : 1 ≤ M) (g5 : M ≤ 65535) (hz0 : 0 ≤ z) (hz1 : z ≤ 1610612736) (hzi : H * r = z)
    (hS : ∀ w : World, Calls Try.prog 19 #[.agg #[.int .i64 5, .int .i64 W, .int .i64 H, .int .i64 M, .int .i64 A]] w fun e w' => e = .returned (.tuple #[.int .i64 z, .bool true]) ∧ Below w.heap.size w w')
    (hW : ∀ w : World, Calls Try.prog 22 #[.agg #[.int .i64 5, .int .i64 W, .int .i64 0, .int .i64 M, .int .i64 0, .int .i64 0, .int .i64 0]] w fun e w' => e = .returned (.int .i64 r) ∧ Below w.heap.size w w') : Calls Try.prog 4 #[.agg #[.int .i64 5, .int .i64 W, .int .i64 H, .int .i64 M, .int .i64 A]] w fun e w' => e = .returned (.bool true) ∧ Below w.heap.size w w' := by
  have HS := Lib.hid hS
  have HW := Lib.hid hW
  have HT := Lib.hid (fun w => textIs (K := (5)) (b := false) (by decide) w)
  have HC := Lib.hid (fun w => colorsIs (K := (5)) (b := false) (by decide) w)
  have HB := Lib.hid (And.intro hz0 (And.intro hz1 hzi))
  clear hz0 hz1 hzi hS hW
  have a8 : decide (M ≤ 65535) = true := decide_eq_true g5
  go_enter Try.func4, Try.ntmps4
  go_wp2_with (go_at_call 19; refine (HS.out _).mono ?_; rintro e w2 ⟨rfl, b2⟩; have c0 : w2.cell? ⟨w.heap.size, 0, none⟩ = some (.int .i64 5) := Blk.cell (Blk.below (Blk.new w _ _) b2 (by simp)) 0; have c1 : w2.cell? ⟨w.heap.size, 1, none⟩ = some (.int .i64 W) := Blk.cell (Blk.below (Blk.new w _ _) b2 (by simp)) 1; have c2 : w2.cell? ⟨w.heap.size, 2, none⟩ = some (.int .i64 H) := Blk.cell (Blk.below (Blk.new w _ _) b2 (by simp)) 2; have c3 : w2.cell? ⟨w.heap.size, 3, none⟩ = some (.int .i64 M) := Blk.cell (Blk.below (Blk.new w _ _) b2 (by simp)) 3; have c4 : w2.cell? ⟨w.heap.size, 4, none⟩ = some (.int .i64 A) := Blk.cell (Blk.below (Blk.new w _ _) b2 (by simp)) 4; have l2 := below_box_size b2)
  go_quiet (first
    | (go_at_call 20; exact Calls.quiet_of_same ((HT.out _).mono fun _ _ ⟨h, k⟩ => ⟨h, k.symm⟩))
    | (go_at_call 21; exact Calls.quiet_of_same ((HC.out _).mono fun _ _ ⟨h, k⟩ => ⟨h, k.symm⟩)))
  go_wp2_with fail
  have hwz : IntKind.i64.wrap (H * r) = z := by obtain ⟨hz0, hz1, hzi⟩ := HB.out; rw [hzi]; exact IntWalk.i64_in _ (by omega)
  go_region_held3 (fun w' => w'.cell? ⟨w.heap.size, 0, none⟩ = some (.int .i64 5) ∧ w'.cell? ⟨w.heap.size, 1, none⟩ = some (.int .i64 W) ∧ w'.cell? ⟨w.heap.size, 2, none⟩ = some (.int .i64 H) ∧ w'.cell? ⟨w.heap.size, 3, none⟩ = some (.int .i64 M))
    (first | exact ⟨c0, c1, c2, c3⟩ | go_keep | (go_split_ands; refine ⟨?_, ?_, ?_, ?_⟩ <;> (rw [hc5 _ _ (by first | omega | (simp; omega))]; assumption)) | (go_split_ands; refine ⟨?_, ?_, ?_, ?_⟩ <;> (rw [hc4 _ _ (by first | omega | (simp; omega))]; assumption)))
    (first | (go_at_call 22; refine (HW.out _).mono ?_; rintro e w4 ⟨rfl, hb4⟩; obtain ⟨hc4, hf4⟩ := bcell hb4; have hz4 := hb4.size; simp at hz4) | (go_at_call 13; refine (awake12_any _).mono ?_; rintro e w5 ⟨rfl, hb5⟩; obtain ⟨hc5, hf5⟩ := bcell hb5))
  go_wp2_with fail
  go_ret
  have z2 := below_next ((Below.refl _ _).alloc (Nat.le_refl _) _) b2
  have z4 : Below w2.heap.size w2 w4 := ⟨hb4.os, hb4.tape, hb4.output, hb4.size, hb4.block⟩
  have z5 : Below w4.heap.size w4 w5 := ⟨hb5.os, hb5.tape, hb5.output, hb5.size, hb5.block⟩
  have z24 := below_next z2 z4
  exact ⟨rfl, below_next z24 z5⟩

set_option maxRecDepth 100000 in
set_option maxHeartbeats 1000000 in
theorem sizes_y6 {W H M A r z : Int} {w : World} (g0 : 1 ≤ W) (g1 : W ≤ 16384) (g2 : 1 ≤ H) (g3 : H ≤ 16384) (g4 : 1 ≤ M) (g5 : M ≤ 65535) (hz0 : 0 ≤ z) (hz1 : z ≤ 1610612736) (hzi : H * r = z)
    (hS : ∀ w : World, Calls Try.prog 19 #[.agg #[.int .i64 6, .int .i64 W, .int .i64 H, .int .i64 M, .int .i64 A]] w fun e w' => e = .returned (.tuple #[.int .i64 z, .bool true]) ∧ Below w.heap.size w w')
    (hW : ∀ w : World, Calls Try.prog 22 #[.agg #[.int .i64 6, .int .i64 W, .int .i64 0, .int .i64 M, .int .i64 0, .int .i64 0, .int .i64 0]] w fun e w' => e = .returned (.int .i64 r) ∧ Below w.heap.size w w') : Calls Try.prog 4 #[.agg #[.int .i64 6, .int .i64 W, .int .i64 H, .int .i64 M, .int .i64 A]] w fun e w' => e = .returned (.bool true) ∧ Below w.heap.size w w' := by
  have HS := Lib.hid hS
  have HW := Lib.hid hW
  have HT := Lib.hid (fun w => textIs (K := (6)) (b := false) (by decide) w)
  have HC := Lib.hid (fun w => colorsIs (K := (6)) (b := true) (by decide) w)
  have HB := Lib.hid (And.intro hz0 (And.intro hz1 hzi))
  clear hz0 hz1 hzi hS hW
  have a8 : decide (M ≤ 65535) = true := decide_eq_true g5
  go_enter Try.func4, Try.ntmps4
  go_wp2_with (go_at_call 19; refine (HS.out _).mono ?_; rintro e w2 ⟨rfl, b2⟩; have c0 : w2.cell? ⟨w.heap.size, 0, none⟩ = some (.int .i64 6) := Blk.cell (Blk.below (Blk.new w _ _) b2 (by simp)) 0; have c1 : w2.cell? ⟨w.heap.size, 1, none⟩ = some (.int .i64 W) := Blk.cell (Blk.below (Blk.new w _ _) b2 (by simp)) 1; have c2 : w2.cell? ⟨w.heap.size, 2, none⟩ = some (.int .i64 H) := Blk.cell (Blk.below (Blk.new w _ _) b2 (by simp)) 2; have c3 : w2.cell? ⟨w.heap.size, 3, none⟩ = some (.int .i64 M) := Blk.cell (Blk.below (Blk.new w _ _) b2 (by simp)) 3; have c4 : w2.cell? ⟨w.heap.size, 4, none⟩ = some (.int .i64 A) := Blk.cell (Blk.below (Blk.new w _ _) b2 (by simp)) 4; have l2 := below_box_size b2)
  go_quiet (first
    | (go_at_call 20; exact Calls.quiet_of_same ((HT.out _).mono fun _ _ ⟨h, k⟩ => ⟨h, k.symm⟩))
    | (go_at_call 21; exact Calls.quiet_of_same ((HC.out _).mono fun _ _ ⟨h, k⟩ => ⟨h, k.symm⟩)))
  go_wp2_with fail
  have hwz : IntKind.i64.wrap (H * r) = z := by obtain ⟨hz0, hz1, hzi⟩ := HB.out; rw [hzi]; exact IntWalk.i64_in _ (by omega)
  go_region_held3 (fun w' => w'.cell? ⟨w.heap.size, 0, none⟩ = some (.int .i64 6) ∧ w'.cell? ⟨w.heap.size, 1, none⟩ = some (.int .i64 W) ∧ w'.cell? ⟨w.heap.size, 2, none⟩ = some (.int .i64 H) ∧ w'.cell? ⟨w.heap.size, 3, none⟩ = some (.int .i64 M))
    (first | exact ⟨c0, c1, c2, c3⟩ | go_keep | (go_split_ands; refine ⟨?_, ?_, ?_, ?_⟩ <;> (rw [hc5 _ _ (by first | omega | (simp; omega))]; assumption)) | (go_split_ands; refine ⟨?_, ?_, ?_, ?_⟩ <;> (rw [hc4 _ _ (by first | omega | (simp; omega))]; assumption)))
    (first | (go_at_call 22; refine (HW.out _).mono ?_; rintro e w4 ⟨rfl, hb4⟩; obtain ⟨hc4, hf4⟩ := bcell hb4; have hz4 := hb4.size; simp at hz4) | (go_at_call 13; refine (awake12_any _).mono ?_; rintro e w5 ⟨rfl, hb5⟩; obtain ⟨hc5, hf5⟩ := bcell hb5))
  go_wp2_with fail
  go_ret
  have z2 := below_next ((Below.refl _ _).alloc (Nat.le_refl _) _) b2
  have z4 : Below w2.heap.size w2 w4 := ⟨hb4.os, hb4.tape, hb4.output, hb4.size, hb4.block⟩
  have z5 : Below w4.heap.size w4 w5 := ⟨hb5.os, hb5.tape, hb5.output, hb5.size, hb5.block⟩
  have z24 := below_next z2 z4
  exact ⟨rfl, below_next z24 z5⟩

theorem sizes_y4n {W H M : Nat} {A : Int} {w : World} (hw : 1 ≤ W ∧ W ≤ 16384) (hh : 1 ≤ H ∧ H ≤ 16384) (hm : 1 ≤ M ∧ M ≤ 65535) (hb : W % 8 = 0) : Calls Try.prog 4 #[.agg #[.int .i64 4, .int .i64 (W : Int), .int .i64 (H : Int), .int .i64 (M : Int), .int .i64 A]] w fun e w' => e = .returned (.bool true) ∧ Below w.heap.size w w' := by
  obtain ⟨r, hr⟩ : ∃ r, r = rowN 4 W M := ⟨_, rfl⟩
  obtain ⟨z, hz⟩ : ∃ z, z = rowN 4 W M * H := ⟨_, rfl⟩
  have hrb : r ≤ 98304 := by
    rw [hr]
    show (W + 7) / 8 ≤ 98304; omega
  have hz2 : z = H * r := by rw [hz, hr, Nat.mul_comm]
  have hzb : z ≤ 16384 * 98304 := by rw [hz2]; exact Nat.mul_le_mul hh.2 hrb
  have hzi : (H : Int) * (r : Int) = (z : Int) := by rw [hz2]; exact (Int.natCast_mul H r).symm
  exact sizes_y4 (by omega) (by omega) (by omega) (by omega) (by omega) (by omega) (by omega) (by omega) hzi (fun w => psize_4 hw hh hm hz) (fun w => rrow_4n hw hm hb hr)

theorem sizes_y4b {W H M : Nat} {A : Int} {w : World} (hw : 1 ≤ W ∧ W ≤ 16384) (hh : 1 ≤ H ∧ H ≤ 16384) (hm : 1 ≤ M ∧ M ≤ 65535) (hb : W % 8 ≠ 0) : Calls Try.prog 4 #[.agg #[.int .i64 4, .int .i64 (W : Int), .int .i64 (H : Int), .int .i64 (M : Int), .int .i64 A]] w fun e w' => e = .returned (.bool true) ∧ Below w.heap.size w w' := by
  obtain ⟨r, hr⟩ : ∃ r, r = rowN 4 W M := ⟨_, rfl⟩
  obtain ⟨z, hz⟩ : ∃ z, z = rowN 4 W M * H := ⟨_, rfl⟩
  have hrb : r ≤ 98304 := by
    rw [hr]
    show (W + 7) / 8 ≤ 98304; omega
  have hz2 : z = H * r := by rw [hz, hr, Nat.mul_comm]
  have hzb : z ≤ 16384 * 98304 := by rw [hz2]; exact Nat.mul_le_mul hh.2 hrb
  have hzi : (H : Int) * (r : Int) = (z : Int) := by rw [hz2]; exact (Int.natCast_mul H r).symm
  exact sizes_y4 (by omega) (by omega) (by omega) (by omega) (by omega) (by omega) (by omega) (by omega) hzi (fun w => psize_4 hw hh hm hz) (fun w => rrow_4b hw hm hb hr)

theorem sizes_y5n {W H M : Nat} {A : Int} {w : World} (hw : 1 ≤ W ∧ W ≤ 16384) (hh : 1 ≤ H ∧ H ≤ 16384) (hm : 1 ≤ M ∧ M ≤ 65535) (hb : ¬ 255 < M) : Calls Try.prog 4 #[.agg #[.int .i64 5, .int .i64 (W : Int), .int .i64 (H : Int), .int .i64 (M : Int), .int .i64 A]] w fun e w' => e = .returned (.bool true) ∧ Below w.heap.size w w' := by
  obtain ⟨r, hr⟩ : ∃ r, r = rowN 5 W M := ⟨_, rfl⟩
  obtain ⟨z, hz⟩ : ∃ z, z = rowN 5 W M * H := ⟨_, rfl⟩
  have hrb : r ≤ 98304 := by
    rw [hr]
    unfold rowN; rw [if_neg (by decide), if_neg (by decide)]; split <;> omega
  have hz2 : z = H * r := by rw [hz, hr, Nat.mul_comm]
  have hzb : z ≤ 16384 * 98304 := by rw [hz2]; exact Nat.mul_le_mul hh.2 hrb
  have hzi : (H : Int) * (r : Int) = (z : Int) := by rw [hz2]; exact (Int.natCast_mul H r).symm
  exact sizes_y5 (by omega) (by omega) (by omega) (by omega) (by omega) (by omega) (by omega) (by omega) hzi (fun w => psize_5n hw hh hm hb hz) (fun w => rrow_5n hw hm hb hr)

theorem sizes_y5b {W H M : Nat} {A : Int} {w : World} (hw : 1 ≤ W ∧ W ≤ 16384) (hh : 1 ≤ H ∧ H ≤ 16384) (hm : 1 ≤ M ∧ M ≤ 65535) (hb : 255 < M) : Calls Try.prog 4 #[.agg #[.int .i64 5, .int .i64 (W : Int), .int .i64 (H : Int), .int .i64 (M : Int), .int .i64 A]] w fun e w' => e = .returned (.bool true) ∧ Below w.heap.size w w' := by
  obtain ⟨r, hr⟩ : ∃ r, r = rowN 5 W M := ⟨_, rfl⟩
  obtain ⟨z, hz⟩ : ∃ z, z = rowN 5 W M * H := ⟨_, rfl⟩
  have hrb : r ≤ 98304 := by
    rw [hr]
    unfold rowN; rw [if_neg (by decide), if_neg (by decide)]; split <;> omega
  have hz2 : z = H * r := by rw [hz, hr, Nat.mul_comm]
  have hzb : z ≤ 16384 * 98304 := by rw [hz2]; exact Nat.mul_le_mul hh.2 hrb
  have hzi : (H : Int) * (r : Int) = (z : Int) := by rw [hz2]; exact (Int.natCast_mul H r).symm
  exact sizes_y5 (by omega) (by omega) (by omega) (by omega) (by omega) (by omega) (by omega) (by omega) hzi (fun w => psize_5b hw hh hm hb hz) (fun w => rrow_5b hw hm hb hr)

theorem sizes_y6n {W H M : Nat} {A : Int} {w : World} (hw : 1 ≤ W ∧ W ≤ 16384) (hh : 1 ≤ H ∧ H ≤ 16384) (hm : 1 ≤ M ∧ M ≤ 65535) (hb : ¬ 255 < M) : Calls Try.prog 4 #[.agg #[.int .i64 6, .int .i64 (W : Int), .int .i64 (H : Int), .int .i64 (M : Int), .int .i64 A]] w fun e w' => e = .returned (.bool true) ∧ Below w.heap.size w w' := by
  obtain ⟨r, hr⟩ : ∃ r, r = rowN 6 W M := ⟨_, rfl⟩
  obtain ⟨z, hz⟩ : ∃ z, z = rowN 6 W M * H := ⟨_, rfl⟩
  have hrb : r ≤ 98304 := by
    rw [hr]
    unfold rowN; rw [if_neg (by decide), if_pos rfl]; split <;> omega
  have hz2 : z = H * r := by rw [hz, hr, Nat.mul_comm]
  have hzb : z ≤ 16384 * 98304 := by rw [hz2]; exact Nat.mul_le_mul hh.2 hrb
  have hzi : (H : Int) * (r : Int) = (z : Int) := by rw [hz2]; exact (Int.natCast_mul H r).symm
  exact sizes_y6 (by omega) (by omega) (by omega) (by omega) (by omega) (by omega) (by omega) (by omega) hzi (fun w => psize_6n hw hh hm hb hz) (fun w => rrow_6n hw hm hb hr)

theorem sizes_y6b {W H M : Nat} {A : Int} {w : World} (hw : 1 ≤ W ∧ W ≤ 16384) (hh : 1 ≤ H ∧ H ≤ 16384) (hm : 1 ≤ M ∧ M ≤ 65535) (hb : 255 < M) : Calls Try.prog 4 #[.agg #[.int .i64 6, .int .i64 (W : Int), .int .i64 (H : Int), .int .i64 (M : Int), .int .i64 A]] w fun e w' => e = .returned (.bool true) ∧ Below w.heap.size w w' := by
  obtain ⟨r, hr⟩ : ∃ r, r = rowN 6 W M := ⟨_, rfl⟩
  obtain ⟨z, hz⟩ : ∃ z, z = rowN 6 W M * H := ⟨_, rfl⟩
  have hrb : r ≤ 98304 := by
    rw [hr]
    unfold rowN; rw [if_neg (by decide), if_pos rfl]; split <;> omega
  have hz2 : z = H * r := by rw [hz, hr, Nat.mul_comm]
  have hzb : z ≤ 16384 * 98304 := by rw [hz2]; exact Nat.mul_le_mul hh.2 hrb
  have hzi : (H : Int) * (r : Int) = (z : Int) := by rw [hz2]; exact (Int.natCast_mul H r).symm
  exact sizes_y6 (by omega) (by omega) (by omega) (by omega) (by omega) (by omega) (by omega) (by omega) hzi (fun w => psize_6b hw hh hm hb hz) (fun w => rrow_6b hw hm hb hr)

theorem pnmheadSizes_said (w : World) (K W H M A : Int) (hf : fits5 K ∧ fits5 W ∧ fits5 H ∧ fits5 M ∧ fits5 A) : Calls Try.prog 4 #[.agg #[.int .i64 K, .int .i64 W, .int .i64 H, .int .i64 M, .int .i64 A]] w fun e w' => e = .returned (.bool true) ∧ Below w.heap.size w w' := by
  by_cases k1 : K = 1
  · subst k1; exact sizes_k1
  by_cases k2 : K = 2
  · subst k2; exact sizes_k2
  by_cases k3 : K = 3
  · subst k3; exact sizes_k3
  by_cases k0 : K < 1
  · exact sizes_low k0
  by_cases k7 : 6 < K
  · exact sizes_high k7
  by_cases b0 : W < 1
  · by_cases k6 : K = 6
    · subst k6; exact sizes_six_0  b0
    · exact sizes_ff_0 (by omega)  b0
  have g0 : 1 ≤ W := by omega
  by_cases b1 : 16384 < W
  · by_cases k6 : K = 6
    · subst k6; exact sizes_six_1 g0 b1
    · exact sizes_ff_1 (by omega) g0 b1
  have g1 : W ≤ 16384 := by omega
  by_cases b2 : H < 1
  · by_cases k6 : K = 6
    · subst k6; exact sizes_six_2 g0 g1 b2
    · exact sizes_ff_2 (by omega) g0 g1 b2
  have g2 : 1 ≤ H := by omega
  by_cases b3 : 16384 < H
  · by_cases k6 : K = 6
    · subst k6; exact sizes_six_3 g0 g1 g2 b3
    · exact sizes_ff_3 (by omega) g0 g1 g2 b3
  have g3 : H ≤ 16384 := by omega
  by_cases b4 : M < 1
  · by_cases k6 : K = 6
    · subst k6; exact sizes_six_4 g0 g1 g2 g3 b4
    · exact sizes_ff_4 (by omega) g0 g1 g2 g3 b4
  have g4 : 1 ≤ M := by omega
  by_cases b5 : 65535 < M
  · by_cases k6 : K = 6
    · subst k6; exact sizes_six_5 g0 g1 g2 g3 g4 b5
    · exact sizes_ff_5 (by omega) g0 g1 g2 g3 g4 b5
  have g5 : M ≤ 65535 := by omega
  obtain ⟨W, rfl⟩ := Int.eq_ofNat_of_zero_le (show 0 ≤ W by omega)
  obtain ⟨H, rfl⟩ := Int.eq_ofNat_of_zero_le (show 0 ≤ H by omega)
  obtain ⟨M, rfl⟩ := Int.eq_ofNat_of_zero_le (show 0 ≤ M by omega)
  have hw : 1 ≤ W ∧ W ≤ 16384 := by omega
  have hh : 1 ≤ H ∧ H ≤ 16384 := by omega
  have hm : 1 ≤ M ∧ M ≤ 65535 := by omega
  by_cases k4 : K = 4
  · subst k4
    by_cases hb : W % 8 = 0
    · exact sizes_y4n hw hh hm hb
    · exact sizes_y4b hw hh hm hb
  by_cases k5 : K = 5
  · subst k5
    by_cases hb : 255 < M
    · exact sizes_y5b hw hh hm hb
    · exact sizes_y5n hw hh hm hb
  · obtain rfl : K = 6 := by omega
    by_cases hb : 255 < M
    · exact sizes_y6b hw hh hm hb
    · exact sizes_y6n hw hh hm hb
end Go.Proofs.Ytegoakfhadmblaa
