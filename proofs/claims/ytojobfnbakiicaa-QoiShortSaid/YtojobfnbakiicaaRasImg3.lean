/- A pixel of an image. -/
import Derived.Test.YtojobfnbakiicaaRas
namespace Go.Proofs.Ytojobfnbakiicaa
open Go.RowKit
set_option linter.unusedVariables false
set_option linter.unusedSimpArgs false

/-- is there such a pixel? -/
def HasP (W H : Int) (n : Nat) (X Y : Int) : Prop := RightP W H n ∧ (0 ≤ X ∧ X < W) ∧ (0 ≤ Y ∧ Y < H)
set_option maxRecDepth 100000 in
set_option maxHeartbeats 1000000 in
theorem pixel_no {W H X Y : Int} {a : Option Addr} {n c : Nat} {w : World} (hno : ¬ HasP W H n X Y) : Calls Try.prog 11 #[.agg #[.int .i64 W, .int .i64 H, .slice a n c], .int .i64 X, .int .i64 Y] w fun e w' => e = .returned (.tuple #[.agg #[.int .u8 0, .int .u8 0, .int .u8 0, .int .u8 0], .bool false]) ∧ Below w.heap.size w w' := by
  have I0 : Blk ((w.alloc (.cells #[.int .i64 W, .int .i64 H, .slice a n c] 26)).alloc (.cells #[.int .u8 0, .int .u8 0, .int .u8 0, .int .u8 0] 23)) w.heap.size 26 #[.int .i64 W, .int .i64 H, .slice a n c] := (Blk.new _ _ _).alloc _
  have R0 : CB ((w.alloc (.cells #[.int .i64 W, .int .i64 H, .slice a n c] 26)).alloc (.cells #[.int .u8 0, .int .u8 0, .int .u8 0, .int .u8 0] 23)) (w.heap.size + 1) 0 0 0 0 := Blk.new_at _ _ _ (by simp)
  have B0 : Below w.heap.size w ((w.alloc (.cells #[.int .i64 W, .int .i64 H, .slice a n c] 26)).alloc (.cells #[.int .u8 0, .int .u8 0, .int .u8 0, .int .u8 0] 23)) := ((Below.refl _ _).alloc (Nat.le_refl _) _).alloc (by simp) _
  have key : ∀ (b : Bool), decide (RightP W H n) = b → (b = true → ¬ ((0 ≤ X ∧ X < W) ∧ (0 ≤ Y ∧ Y < H))) → Calls Try.prog 11 #[.agg #[.int .i64 W, .int .i64 H, .slice a n c], .int .i64 X, .int .i64 Y] w fun e w' => e = .returned (.tuple #[.agg #[.int .u8 0, .int .u8 0, .int .u8 0, .int .u8 0], .bool false]) ∧ Below w.heap.size w w' := by
    intro b hb hq
    have HR := Lib.hid (fun w => hb ▸ right_any W H a n c w)
    clear hb
    cases b
    · clear hq
      go_enter Try.func11, Try.ntmps11
      go_wp2_with (go_at_call 8; refine (HR.out _).mono ?_; rintro e w1 ⟨rfl, b1⟩; have I1 := Blk.below I0 b1 (Blk.lt I0); have R1 : CB w1 (w.heap.size + 1) 0 0 0 0 := Blk.below R0 b1 (Blk.lt R0); have B1 := below_next B0 b1; have i0 : w1.cell? ⟨w.heap.size, 0, none⟩ = some (.int .i64 W) := Blk.cell I1 0; have i1 : w1.cell? ⟨w.heap.size, 1, none⟩ = some (.int .i64 H) := Blk.cell I1 1; have i2 : w1.cell? ⟨w.heap.size, 2, none⟩ = some (.slice a n c) := Blk.cell I1 2; have r0 := R1.c0; have r1 := R1.c1; have r2 := R1.c2; have r3 := R1.c3; have z0 := Blk.frozen R1 0; have z1 := Blk.frozen R1 1; have z2 := Blk.frozen R1 2; have z3 := Blk.frozen R1 3; have lr := Blk.lt R1)
      have fz : CB (st4 w1 (w.heap.size + 1) 0 0 0 0) (w.heap.size + 1) 0 0 0 0 := R1.store
      have tz : Below w.heap.size w (st4 w1 (w.heap.size + 1) 0 0 0 0) := Below.st4 B1 (by omega)
      change bodyPost _ _ _ _ _ (st4 w1 (w.heap.size + 1) 0 0 0 0)
      generalize (st4 w1 (w.heap.size + 1) 0 0 0 0) = we at fz tz ⊢
      have q0 := fz.c0
      have q1 := fz.c1
      have q2 := fz.c2
      have q3 := fz.c3
      exact bodyPost_ret (v := .tuple #[.agg #[.int .u8 0, .int .u8 0, .int .u8 0, .int .u8 0], .bool false]) (by simp [results, Try.results11, go_sem, q0, q1, q2, q3]) rfl ⟨rfl, tz⟩
    · have hq := hq rfl
      by_cases x0 : X < 0
      · clear hq
        go_enter Try.func11, Try.ntmps11
        go_wp2_with (go_at_call 8; refine (HR.out _).mono ?_; rintro e w1 ⟨rfl, b1⟩; have I1 := Blk.below I0 b1 (Blk.lt I0); have R1 : CB w1 (w.heap.size + 1) 0 0 0 0 := Blk.below R0 b1 (Blk.lt R0); have B1 := below_next B0 b1; have i0 : w1.cell? ⟨w.heap.size, 0, none⟩ = some (.int .i64 W) := Blk.cell I1 0; have i1 : w1.cell? ⟨w.heap.size, 1, none⟩ = some (.int .i64 H) := Blk.cell I1 1; have i2 : w1.cell? ⟨w.heap.size, 2, none⟩ = some (.slice a n c) := Blk.cell I1 2; have r0 := R1.c0; have r1 := R1.c1; have r2 := R1.c2; have r3 := R1.c3; have z0 := Blk.frozen R1 0; have z1 := Blk.frozen R1 1; have z2 := Blk.frozen R1 2; have z3 := Blk.frozen R1 3; have lr := Blk.lt R1)
        have fz : CB (st4 w1 (w.heap.size + 1) 0 0 0 0) (w.heap.size + 1) 0 0 0 0 := R1.store
        have tz : Below w.heap.size w (st4 w1 (w.heap.size + 1) 0 0 0 0) := Below.st4 B1 (by omega)
        change bodyPost _ _ _ _ _ (st4 w1 (w.heap.size + 1) 0 0 0 0)
        generalize (st4 w1 (w.heap.size + 1) 0 0 0 0) = we at fz tz ⊢
        have q0 := fz.c0
        have q1 := fz.c1
        have q2 := fz.c2
        have q3 := fz.c3
        exact bodyPost_ret (v := .tuple #[.agg #[.int .u8 0, .int .u8 0, .int .u8 0, .int .u8 0], .bool false]) (by simp [results, Try.results11, go_sem, q0, q1, q2, q3]) rfl ⟨rfl, tz⟩
      by_cases x1 : W ≤ X
      · clear hq
        go_enter Try.func11, Try.ntmps11
        go_wp2_with (go_at_call 8; refine (HR.out _).mono ?_; rintro e w1 ⟨rfl, b1⟩; have I1 := Blk.below I0 b1 (Blk.lt I0); have R1 : CB w1 (w.heap.size + 1) 0 0 0 0 := Blk.below R0 b1 (Blk.lt R0); have B1 := below_next B0 b1; have i0 : w1.cell? ⟨w.heap.size, 0, none⟩ = some (.int .i64 W) := Blk.cell I1 0; have i1 : w1.cell? ⟨w.heap.size, 1, none⟩ = some (.int .i64 H) := Blk.cell I1 1; have i2 : w1.cell? ⟨w.heap.size, 2, none⟩ = some (.slice a n c) := Blk.cell I1 2; have r0 := R1.c0; have r1 := R1.c1; have r2 := R1.c2; have r3 := R1.c3; have z0 := Blk.frozen R1 0; have z1 := Blk.frozen R1 1; have z2 := Blk.frozen R1 2; have z3 := Blk.frozen R1 3; have lr := Blk.lt R1)
        have fz : CB (st4 w1 (w.heap.size + 1) 0 0 0 0) (w.heap.size + 1) 0 0 0 0 := R1.store
        have tz : Below w.heap.size w (st4 w1 (w.heap.size + 1) 0 0 0 0) := Below.st4 B1 (by omega)
        change bodyPost _ _ _ _ _ (st4 w1 (w.heap.size + 1) 0 0 0 0)
        generalize (st4 w1 (w.heap.size + 1) 0 0 0 0) = we at fz tz ⊢
        have q0 := fz.c0
        have q1 := fz.c1
        have q2 := fz.c2
        have q3 := fz.c3
        exact bodyPost_ret (v := .tuple #[.agg #[.int .u8 0, .int .u8 0, .int .u8 0, .int .u8 0], .bool false]) (by simp [results, Try.results11, go_sem, q0, q1, q2, q3]) rfl ⟨rfl, tz⟩
      by_cases y0 : Y < 0
      · clear hq
        go_enter Try.func11, Try.ntmps11
        go_wp2_with (go_at_call 8; refine (HR.out _).mono ?_; rintro e w1 ⟨rfl, b1⟩; have I1 := Blk.below I0 b1 (Blk.lt I0); have R1 : CB w1 (w.heap.size + 1) 0 0 0 0 := Blk.below R0 b1 (Blk.lt R0); have B1 := below_next B0 b1; have i0 : w1.cell? ⟨w.heap.size, 0, none⟩ = some (.int .i64 W) := Blk.cell I1 0; have i1 : w1.cell? ⟨w.heap.size, 1, none⟩ = some (.int .i64 H) := Blk.cell I1 1; have i2 : w1.cell? ⟨w.heap.size, 2, none⟩ = some (.slice a n c) := Blk.cell I1 2; have r0 := R1.c0; have r1 := R1.c1; have r2 := R1.c2; have r3 := R1.c3; have z0 := Blk.frozen R1 0; have z1 := Blk.frozen R1 1; have z2 := Blk.frozen R1 2; have z3 := Blk.frozen R1 3; have lr := Blk.lt R1)
        have fz : CB (st4 w1 (w.heap.size + 1) 0 0 0 0) (w.heap.size + 1) 0 0 0 0 := R1.store
        have tz : Below w.heap.size w (st4 w1 (w.heap.size + 1) 0 0 0 0) := Below.st4 B1 (by omega)
        change bodyPost _ _ _ _ _ (st4 w1 (w.heap.size + 1) 0 0 0 0)
        generalize (st4 w1 (w.heap.size + 1) 0 0 0 0) = we at fz tz ⊢
        have q0 := fz.c0
        have q1 := fz.c1
        have q2 := fz.c2
        have q3 := fz.c3
        exact bodyPost_ret (v := .tuple #[.agg #[.int .u8 0, .int .u8 0, .int .u8 0, .int .u8 0], .bool false]) (by simp [results, Try.results11, go_sem, q0, q1, q2, q3]) rfl ⟨rfl, tz⟩
      have y1 : H ≤ Y := by omega
      clear hq
      go_enter Try.func11, Try.ntmps11
      go_wp2_with (go_at_call 8; refine (HR.out _).mono ?_; rintro e w1 ⟨rfl, b1⟩; have I1 := Blk.below I0 b1 (Blk.lt I0); have R1 : CB w1 (w.heap.size + 1) 0 0 0 0 := Blk.below R0 b1 (Blk.lt R0); have B1 := below_next B0 b1; have i0 : w1.cell? ⟨w.heap.size, 0, none⟩ = some (.int .i64 W) := Blk.cell I1 0; have i1 : w1.cell? ⟨w.heap.size, 1, none⟩ = some (.int .i64 H) := Blk.cell I1 1; have i2 : w1.cell? ⟨w.heap.size, 2, none⟩ = some (.slice a n c) := Blk.cell I1 2; have r0 := R1.c0; have r1 := R1.c1; have r2 := R1.c2; have r3 := R1.c3; have z0 := Blk.frozen R1 0; have z1 := Blk.frozen R1 1; have z2 := Blk.frozen R1 2; have z3 := Blk.frozen R1 3; have lr := Blk.lt R1)
      have fz : CB (st4 w1 (w.heap.size + 1) 0 0 0 0) (w.heap.size + 1) 0 0 0 0 := R1.store
      have tz : Below w.heap.size w (st4 w1 (w.heap.size + 1) 0 0 0 0) := Below.st4 B1 (by omega)
      change bodyPost _ _ _ _ _ (st4 w1 (w.heap.size + 1) 0 0 0 0)
      generalize (st4 w1 (w.heap.size + 1) 0 0 0 0) = we at fz tz ⊢
      have q0 := fz.c0
      have q1 := fz.c1
      have q2 := fz.c2
      have q3 := fz.c3
      exact bodyPost_ret (v := .tuple #[.agg #[.int .u8 0, .int .u8 0, .int .u8 0, .int .u8 0], .bool false]) (by simp [results, Try.results11, go_sem, q0, q1, q2, q3]) rfl ⟨rfl, tz⟩
  by_cases h : RightP W H n
  · exact key true (decide_eq_true h) (fun _ q => hno ⟨h, q⟩)
  · exact key false (decide_eq_false h) (fun e => absurd e (by decide))
end Go.Proofs.Ytojobfnbakiicaa
