/- The law RasterNew. -/
import Derived.Test.YtegoakfhadmblaaRas5
import Derived.Test.YtegoakfhadmblaaOpenLed
namespace Go.Proofs.Ytegoakfhadmblaa
open Go.RowKit
set_option linter.unusedVariables false
set_option linter.unusedSimpArgs false

set_option maxRecDepth 100000 in
set_option maxHeartbeats 2000000 in
theorem rnW1b {w : World} {p0 p1 p2 p3 W H : Int} {x0 : Led} {y : Led} {z : Int} (hbig : 65536 < p2) (hx0 : Led.new p0 p1 65536 p3 = x0) (ok : x0.Ok) (hr : x0.reason = 0) (hw : W < 1) : Calls Try.prog 8 #[.agg #[.int .i64 p0, .int .i64 p1, .int .i64 p2, .int .i64 p3], .int .i64 W, .int .i64 H] w fun e w' => e = .returned (.bool true) ∧ Below w.heap.size w w' := by
  have HX0 := Lib.hid hx0
  have HOK := Lib.hid ok
  have HBR : Hid (decide (x0.reason ≠ 0) = false) := Lib.hid (by rw [hr]; rfl)
  clear hx0 ok
  go_enter Try.func8, Try.ntmps8
  go_wp2_with (first
    | (go_at_call 15; refine (ledNew_at HX0.out _).mono ?_; rintro e w1 ⟨g, rfl, hgB, h0, b0⟩; have K1 : Blk w1 w.heap.size 30 #[.int .i64 p0, .int .i64 p1, .int .i64 65536, .int .i64 p3] := Blk.below (Blk.new w _ _) b0 (by simp); have B1 := below_next ((Below.refl _ w).alloc (Nat.le_refl _) (.cells #[.int .i64 p0, .int .i64 p1, .int .i64 65536, .int .i64 p3] 30)) b0; have hgw : w.heap.size < g := (by simp at hgB; omega); have c0 : w1.cell? ⟨w.heap.size, 0, none⟩ = some (.int .i64 p0) := Blk.cell K1 0; have c1 : w1.cell? ⟨w.heap.size, 1, none⟩ = some (.int .i64 p1) := Blk.cell K1 1; have c2 : w1.cell? ⟨w.heap.size, 2, none⟩ = some (.int .i64 65536) := Blk.cell K1 2; have c3 : w1.cell? ⟨w.heap.size, 3, none⟩ = some (.int .i64 p3) := Blk.cell K1 3; have lk := Blk.lt K1)
    | (go_at_call 40; have := kn; refine (rasNew_nil _ _ _).mono ?_; rintro e w9 ⟨rfl, rfl⟩)
    | (go_at_call 40; refine (rasNew_rangeW g (by omega) _).mono ?_; rintro e w2 ⟨rfl, rfl⟩; have B2 := B1; have l2 := h0; have kn := trivial)
    | (go_at_call 41; refine (broken_at l2 HBR.out).mono ?_; rintro e w9 ⟨rfl, rfl⟩)
    | (go_at_call 42; refine (awake07_any _).mono ?_; rintro e w5 ⟨rfl, b5⟩))
  go_ret
  exact ⟨rfl, below_next B2 b5⟩

set_option maxRecDepth 100000 in
set_option maxHeartbeats 2000000 in
theorem rnW2b {w : World} {p0 p1 p2 p3 W H : Int} {x0 : Led} {y : Led} {z : Int} (hbig : 65536 < p2) (hx0 : Led.new p0 p1 65536 p3 = x0) (ok : x0.Ok) (hr : x0.reason = 0) (hw1 : 1 ≤ W) (hw : 16384 < W) : Calls Try.prog 8 #[.agg #[.int .i64 p0, .int .i64 p1, .int .i64 p2, .int .i64 p3], .int .i64 W, .int .i64 H] w fun e w' => e = .returned (.bool true) ∧ Below w.heap.size w w' := by
  have HX0 := Lib.hid hx0
  have HOK := Lib.hid ok
  have HBR : Hid (decide (x0.reason ≠ 0) = false) := Lib.hid (by rw [hr]; rfl)
  have v1 : ¬ W < 1 := by omega
  clear hx0 ok
  go_enter Try.func8, Try.ntmps8
  go_wp2_with (first
    | (go_at_call 15; refine (ledNew_at HX0.out _).mono ?_; rintro e w1 ⟨g, rfl, hgB, h0, b0⟩; have K1 : Blk w1 w.heap.size 30 #[.int .i64 p0, .int .i64 p1, .int .i64 65536, .int .i64 p3] := Blk.below (Blk.new w _ _) b0 (by simp); have B1 := below_next ((Below.refl _ w).alloc (Nat.le_refl _) (.cells #[.int .i64 p0, .int .i64 p1, .int .i64 65536, .int .i64 p3] 30)) b0; have hgw : w.heap.size < g := (by simp at hgB; omega); have c0 : w1.cell? ⟨w.heap.size, 0, none⟩ = some (.int .i64 p0) := Blk.cell K1 0; have c1 : w1.cell? ⟨w.heap.size, 1, none⟩ = some (.int .i64 p1) := Blk.cell K1 1; have c2 : w1.cell? ⟨w.heap.size, 2, none⟩ = some (.int .i64 65536) := Blk.cell K1 2; have c3 : w1.cell? ⟨w.heap.size, 3, none⟩ = some (.int .i64 p3) := Blk.cell K1 3; have lk := Blk.lt K1)
    | (go_at_call 40; have := kn; refine (rasNew_nil _ _ _).mono ?_; rintro e w9 ⟨rfl, rfl⟩)
    | (go_at_call 40; refine (rasNew_rangeW g (by omega) _).mono ?_; rintro e w2 ⟨rfl, rfl⟩; have B2 := B1; have l2 := h0; have kn := trivial)
    | (go_at_call 41; refine (broken_at l2 HBR.out).mono ?_; rintro e w9 ⟨rfl, rfl⟩)
    | (go_at_call 42; refine (awake07_any _).mono ?_; rintro e w5 ⟨rfl, b5⟩))
  go_ret
  exact ⟨rfl, below_next B2 b5⟩

set_option maxRecDepth 100000 in
set_option maxHeartbeats 2000000 in
theorem rnH1b {w : World} {p0 p1 p2 p3 W H : Int} {x0 : Led} {y : Led} {z : Int} (hbig : 65536 < p2) (hx0 : Led.new p0 p1 65536 p3 = x0) (ok : x0.Ok) (hr : x0.reason = 0) (hw : 1 ≤ W ∧ W ≤ 16384) (hh : H < 1) : Calls Try.prog 8 #[.agg #[.int .i64 p0, .int .i64 p1, .int .i64 p2, .int .i64 p3], .int .i64 W, .int .i64 H] w fun e w' => e = .returned (.bool true) ∧ Below w.heap.size w w' := by
  have HX0 := Lib.hid hx0
  have HOK := Lib.hid ok
  have HBR : Hid (decide (x0.reason ≠ 0) = false) := Lib.hid (by rw [hr]; rfl)
  have v1 : ¬ W < 1 := by omega
  have v2 : ¬ 16384 < W := by omega
  clear hx0 ok
  go_enter Try.func8, Try.ntmps8
  go_wp2_with (first
    | (go_at_call 15; refine (ledNew_at HX0.out _).mono ?_; rintro e w1 ⟨g, rfl, hgB, h0, b0⟩; have K1 : Blk w1 w.heap.size 30 #[.int .i64 p0, .int .i64 p1, .int .i64 65536, .int .i64 p3] := Blk.below (Blk.new w _ _) b0 (by simp); have B1 := below_next ((Below.refl _ w).alloc (Nat.le_refl _) (.cells #[.int .i64 p0, .int .i64 p1, .int .i64 65536, .int .i64 p3] 30)) b0; have hgw : w.heap.size < g := (by simp at hgB; omega); have c0 : w1.cell? ⟨w.heap.size, 0, none⟩ = some (.int .i64 p0) := Blk.cell K1 0; have c1 : w1.cell? ⟨w.heap.size, 1, none⟩ = some (.int .i64 p1) := Blk.cell K1 1; have c2 : w1.cell? ⟨w.heap.size, 2, none⟩ = some (.int .i64 65536) := Blk.cell K1 2; have c3 : w1.cell? ⟨w.heap.size, 3, none⟩ = some (.int .i64 p3) := Blk.cell K1 3; have lk := Blk.lt K1)
    | (go_at_call 40; have := kn; refine (rasNew_nil _ _ _).mono ?_; rintro e w9 ⟨rfl, rfl⟩)
    | (go_at_call 40; refine (rasNew_rangeH g hw (by omega) _).mono ?_; rintro e w2 ⟨rfl, rfl⟩; have B2 := B1; have l2 := h0; have kn := trivial)
    | (go_at_call 41; refine (broken_at l2 HBR.out).mono ?_; rintro e w9 ⟨rfl, rfl⟩)
    | (go_at_call 42; refine (awake07_any _).mono ?_; rintro e w5 ⟨rfl, b5⟩))
  go_ret
  exact ⟨rfl, below_next B2 b5⟩

set_option maxRecDepth 100000 in
set_option maxHeartbeats 2000000 in
theorem rnH2b {w : World} {p0 p1 p2 p3 W H : Int} {x0 : Led} {y : Led} {z : Int} (hbig : 65536 < p2) (hx0 : Led.new p0 p1 65536 p3 = x0) (ok : x0.Ok) (hr : x0.reason = 0) (hw : 1 ≤ W ∧ W ≤ 16384) (hh1 : 1 ≤ H) (hh : 16384 < H) : Calls Try.prog 8 #[.agg #[.int .i64 p0, .int .i64 p1, .int .i64 p2, .int .i64 p3], .int .i64 W, .int .i64 H] w fun e w' => e = .returned (.bool true) ∧ Below w.heap.size w w' := by
  have HX0 := Lib.hid hx0
  have HOK := Lib.hid ok
  have HBR : Hid (decide (x0.reason ≠ 0) = false) := Lib.hid (by rw [hr]; rfl)
  have v1 : ¬ W < 1 := by omega
  have v2 : ¬ 16384 < W := by omega
  have v3 : ¬ H < 1 := by omega
  have v4 : decide (16384 < H) = true := decide_eq_true hh
  clear hx0 ok
  go_enter Try.func8, Try.ntmps8
  go_wp2_with (first
    | (go_at_call 15; refine (ledNew_at HX0.out _).mono ?_; rintro e w1 ⟨g, rfl, hgB, h0, b0⟩; have K1 : Blk w1 w.heap.size 30 #[.int .i64 p0, .int .i64 p1, .int .i64 65536, .int .i64 p3] := Blk.below (Blk.new w _ _) b0 (by simp); have B1 := below_next ((Below.refl _ w).alloc (Nat.le_refl _) (.cells #[.int .i64 p0, .int .i64 p1, .int .i64 65536, .int .i64 p3] 30)) b0; have hgw : w.heap.size < g := (by simp at hgB; omega); have c0 : w1.cell? ⟨w.heap.size, 0, none⟩ = some (.int .i64 p0) := Blk.cell K1 0; have c1 : w1.cell? ⟨w.heap.size, 1, none⟩ = some (.int .i64 p1) := Blk.cell K1 1; have c2 : w1.cell? ⟨w.heap.size, 2, none⟩ = some (.int .i64 65536) := Blk.cell K1 2; have c3 : w1.cell? ⟨w.heap.size, 3, none⟩ = some (.int .i64 p3) := Blk.cell K1 3; have lk := Blk.lt K1)
    | (go_at_call 40; have := kn; refine (rasNew_nil _ _ _).mono ?_; rintro e w9 ⟨rfl, rfl⟩)
    | (go_at_call 40; refine (rasNew_rangeH g hw (by omega) _).mono ?_; rintro e w2 ⟨rfl, rfl⟩; have B2 := B1; have l2 := h0; have kn := trivial)
    | (go_at_call 41; refine (broken_at l2 HBR.out).mono ?_; rintro e w9 ⟨rfl, rfl⟩)
    | (go_at_call 42; refine (awake07_any _).mono ?_; rintro e w5 ⟨rfl, b5⟩))
  go_ret
  exact ⟨rfl, below_next B2 b5⟩

set_option maxRecDepth 100000 in
set_option maxHeartbeats 2000000 in
theorem rnSWb {w : World} {p0 p1 p2 p3 W H : Int} {x0 : Led} {y : Led} {z : Int} (hbig : 65536 < p2) (hx0 : Led.new p0 p1 65536 p3 = x0) (ok : x0.Ok) (hs : sideHyp W H) (hyr : decide (y.reason ≠ 0) = true) (hyb : y.bytes = 0) (hw : p0 < W) (he : x0.sides W H = (y, false)) : Calls Try.prog 8 #[.agg #[.int .i64 p0, .int .i64 p1, .int .i64 p2, .int .i64 p3], .int .i64 W, .int .i64 H] w fun e w' => e = .returned (.bool true) ∧ Below w.heap.size w w' := by
  have HX0 := Lib.hid hx0
  have HOK := Lib.hid ok
  have HS := Lib.hid hs
  have HBR := Lib.hid hyr
  have HBY := Lib.hid hyb
  have w1a : ¬ W < 1 := by have := hs.1.1; omega
  have w1b : ¬ 16384 < W := by have := hs.1.2; omega
  have h1a : ¬ H < 1 := by have := hs.2.1; omega
  have h1b : ¬ 16384 < H := by have := hs.2.2; omega
  have HE := Lib.hid he
  clear he hyr hyb hs
  clear hx0 ok
  go_enter Try.func8, Try.ntmps8
  go_wp2_with (first
    | (go_at_call 15; refine (ledNew_at HX0.out _).mono ?_; rintro e w1 ⟨g, rfl, hgB, h0, b0⟩; have K1 : Blk w1 w.heap.size 30 #[.int .i64 p0, .int .i64 p1, .int .i64 65536, .int .i64 p3] := Blk.below (Blk.new w _ _) b0 (by simp); have B1 := below_next ((Below.refl _ w).alloc (Nat.le_refl _) (.cells #[.int .i64 p0, .int .i64 p1, .int .i64 65536, .int .i64 p3] 30)) b0; have hgw : w.heap.size < g := (by simp at hgB; omega); have c0 : w1.cell? ⟨w.heap.size, 0, none⟩ = some (.int .i64 p0) := Blk.cell K1 0; have c1 : w1.cell? ⟨w.heap.size, 1, none⟩ = some (.int .i64 p1) := Blk.cell K1 1; have c2 : w1.cell? ⟨w.heap.size, 2, none⟩ = some (.int .i64 65536) := Blk.cell K1 2; have c3 : w1.cell? ⟨w.heap.size, 3, none⟩ = some (.int .i64 p3) := Blk.cell K1 3; have lk := Blk.lt K1)
    | (go_at_call 40; have := kn; refine (rasNew_nil _ _ _).mono ?_; rintro e w9 ⟨rfl, rfl⟩)
    | (go_at_call 40; refine (rasNew_sides HS.out h0 HOK.out HE.out).mono ?_; rintro e w2 ⟨rfl, l2, t2⟩; have K2 : Blk w2 w.heap.size 30 #[.int .i64 p0, .int .i64 p1, .int .i64 65536, .int .i64 p3] := Blk.turn K1 t2 (by simp; omega); clear c0 c1 c2 c3 lk; have c0 : w2.cell? ⟨w.heap.size, 0, none⟩ = some (.int .i64 p0) := Blk.cell K2 0; have c1 : w2.cell? ⟨w.heap.size, 1, none⟩ = some (.int .i64 p1) := Blk.cell K2 1; have c2 : w2.cell? ⟨w.heap.size, 2, none⟩ = some (.int .i64 65536) := Blk.cell K2 2; have B2 := Turn.belowNext B1 t2 (by simp; omega) B1.size; have kn := trivial)
    | (go_at_call 41; refine (broken_at l2 HBR.out).mono ?_; rintro e w9 ⟨rfl, rfl⟩)
    | (go_at_call 27; refine (bytes_at l2 HBY.out).mono ?_; rintro e w9 ⟨rfl, rfl⟩)
    | (go_at_call 42; refine (awake07_any _).mono ?_; rintro e w5 ⟨rfl, b5⟩))
  go_ret
  exact ⟨rfl, below_next B2 b5⟩

set_option maxRecDepth 100000 in
set_option maxHeartbeats 2000000 in
theorem rnSHb {w : World} {p0 p1 p2 p3 W H : Int} {x0 : Led} {y : Led} {z : Int} (hbig : 65536 < p2) (hx0 : Led.new p0 p1 65536 p3 = x0) (ok : x0.Ok) (hs : sideHyp W H) (hyr : decide (y.reason ≠ 0) = true) (hyb : y.bytes = 0) (hw : ¬ p0 < W) (hh : p1 < H) (he : x0.sides W H = (y, false)) : Calls Try.prog 8 #[.agg #[.int .i64 p0, .int .i64 p1, .int .i64 p2, .int .i64 p3], .int .i64 W, .int .i64 H] w fun e w' => e = .returned (.bool true) ∧ Below w.heap.size w w' := by
  have HX0 := Lib.hid hx0
  have HOK := Lib.hid ok
  have HS := Lib.hid hs
  have HBR := Lib.hid hyr
  have HBY := Lib.hid hyb
  have w1a : ¬ W < 1 := by have := hs.1.1; omega
  have w1b : ¬ 16384 < W := by have := hs.1.2; omega
  have h1a : ¬ H < 1 := by have := hs.2.1; omega
  have h1b : ¬ 16384 < H := by have := hs.2.2; omega
  have HE := Lib.hid he
  clear he hyr hyb hs
  clear hx0 ok
  go_enter Try.func8, Try.ntmps8
  go_wp2_with (first
    | (go_at_call 15; refine (ledNew_at HX0.out _).mono ?_; rintro e w1 ⟨g, rfl, hgB, h0, b0⟩; have K1 : Blk w1 w.heap.size 30 #[.int .i64 p0, .int .i64 p1, .int .i64 65536, .int .i64 p3] := Blk.below (Blk.new w _ _) b0 (by simp); have B1 := below_next ((Below.refl _ w).alloc (Nat.le_refl _) (.cells #[.int .i64 p0, .int .i64 p1, .int .i64 65536, .int .i64 p3] 30)) b0; have hgw : w.heap.size < g := (by simp at hgB; omega); have c0 : w1.cell? ⟨w.heap.size, 0, none⟩ = some (.int .i64 p0) := Blk.cell K1 0; have c1 : w1.cell? ⟨w.heap.size, 1, none⟩ = some (.int .i64 p1) := Blk.cell K1 1; have c2 : w1.cell? ⟨w.heap.size, 2, none⟩ = some (.int .i64 65536) := Blk.cell K1 2; have c3 : w1.cell? ⟨w.heap.size, 3, none⟩ = some (.int .i64 p3) := Blk.cell K1 3; have lk := Blk.lt K1)
    | (go_at_call 40; have := kn; refine (rasNew_nil _ _ _).mono ?_; rintro e w9 ⟨rfl, rfl⟩)
    | (go_at_call 40; refine (rasNew_sides HS.out h0 HOK.out HE.out).mono ?_; rintro e w2 ⟨rfl, l2, t2⟩; have K2 : Blk w2 w.heap.size 30 #[.int .i64 p0, .int .i64 p1, .int .i64 65536, .int .i64 p3] := Blk.turn K1 t2 (by simp; omega); clear c0 c1 c2 c3 lk; have c0 : w2.cell? ⟨w.heap.size, 0, none⟩ = some (.int .i64 p0) := Blk.cell K2 0; have c1 : w2.cell? ⟨w.heap.size, 1, none⟩ = some (.int .i64 p1) := Blk.cell K2 1; have c2 : w2.cell? ⟨w.heap.size, 2, none⟩ = some (.int .i64 65536) := Blk.cell K2 2; have B2 := Turn.belowNext B1 t2 (by simp; omega) B1.size; have kn := trivial)
    | (go_at_call 41; refine (broken_at l2 HBR.out).mono ?_; rintro e w9 ⟨rfl, rfl⟩)
    | (go_at_call 27; refine (bytes_at l2 HBY.out).mono ?_; rintro e w9 ⟨rfl, rfl⟩)
    | (go_at_call 42; refine (awake07_any _).mono ?_; rintro e w5 ⟨rfl, b5⟩))
  go_ret
  exact ⟨rfl, below_next B2 b5⟩

set_option maxRecDepth 100000 in
set_option maxHeartbeats 2000000 in
theorem rnTb {w : World} {p0 p1 p2 p3 W H : Int} {x0 : Led} {y : Led} {z : Int} (hbig : 65536 < p2) (hx0 : Led.new p0 p1 65536 p3 = x0) (ok : x0.Ok) (hs : sideHyp W H) (hyr : decide (y.reason ≠ 0) = true) (hyb : y.bytes = 0) (hw : ¬ p0 < W) (hh : ¬ p1 < H) (hwz : IntKind.i64.wrap (4 * W * H) = z) (hz : 65536 < z) (hN : ∀ (w : World) (g : Nat), LedAt w g x0 → Calls Try.prog 40 #[.pointer (some ⟨g, 0, none⟩), .int .i64 W, .int .i64 H] w fun e w' => e = .returned (.tuple #[.pointer none, .int .i64 4]) ∧ LedAt w' g y ∧ Turn [g] w w') : Calls Try.prog 8 #[.agg #[.int .i64 p0, .int .i64 p1, .int .i64 p2, .int .i64 p3], .int .i64 W, .int .i64 H] w fun e w' => e = .returned (.bool true) ∧ Below w.heap.size w w' := by
  have HX0 := Lib.hid hx0
  have HOK := Lib.hid ok
  have HS := Lib.hid hs
  have HBR := Lib.hid hyr
  have HBY := Lib.hid hyb
  have w1a : ¬ W < 1 := by have := hs.1.1; omega
  have w1b : ¬ 16384 < W := by have := hs.1.2; omega
  have h1a : ¬ H < 1 := by have := hs.2.1; omega
  have h1b : ¬ 16384 < H := by have := hs.2.2; omega
  have HN := Lib.hid hN
  have hz2 : decide (65536 < z) = true := decide_eq_true hz
  clear hyr hyb hs hN
  clear hx0 ok
  go_enter Try.func8, Try.ntmps8
  go_wp2_with (first
    | (go_at_call 15; refine (ledNew_at HX0.out _).mono ?_; rintro e w1 ⟨g, rfl, hgB, h0, b0⟩; have K1 : Blk w1 w.heap.size 30 #[.int .i64 p0, .int .i64 p1, .int .i64 65536, .int .i64 p3] := Blk.below (Blk.new w _ _) b0 (by simp); have B1 := below_next ((Below.refl _ w).alloc (Nat.le_refl _) (.cells #[.int .i64 p0, .int .i64 p1, .int .i64 65536, .int .i64 p3] 30)) b0; have hgw : w.heap.size < g := (by simp at hgB; omega); have c0 : w1.cell? ⟨w.heap.size, 0, none⟩ = some (.int .i64 p0) := Blk.cell K1 0; have c1 : w1.cell? ⟨w.heap.size, 1, none⟩ = some (.int .i64 p1) := Blk.cell K1 1; have c2 : w1.cell? ⟨w.heap.size, 2, none⟩ = some (.int .i64 65536) := Blk.cell K1 2; have c3 : w1.cell? ⟨w.heap.size, 3, none⟩ = some (.int .i64 p3) := Blk.cell K1 3; have lk := Blk.lt K1)
    | (go_at_call 40; have := kn; refine (rasNew_nil _ _ _).mono ?_; rintro e w9 ⟨rfl, rfl⟩)
    | (go_at_call 40; refine (HN.out _ _ h0).mono ?_; rintro e w2 ⟨rfl, l2, t2⟩; have K2 : Blk w2 w.heap.size 30 #[.int .i64 p0, .int .i64 p1, .int .i64 65536, .int .i64 p3] := Blk.turn K1 t2 (by simp; omega); clear c0 c1 c2 c3 lk; have c0 : w2.cell? ⟨w.heap.size, 0, none⟩ = some (.int .i64 p0) := Blk.cell K2 0; have c1 : w2.cell? ⟨w.heap.size, 1, none⟩ = some (.int .i64 p1) := Blk.cell K2 1; have c2 : w2.cell? ⟨w.heap.size, 2, none⟩ = some (.int .i64 65536) := Blk.cell K2 2; have B2 := Turn.belowNext B1 t2 (by simp; omega) B1.size; have kn := trivial)
    | (go_at_call 41; refine (broken_at l2 HBR.out).mono ?_; rintro e w9 ⟨rfl, rfl⟩)
    | (go_at_call 27; refine (bytes_at l2 HBY.out).mono ?_; rintro e w9 ⟨rfl, rfl⟩)
    | (go_at_call 42; refine (awake07_any _).mono ?_; rintro e w5 ⟨rfl, b5⟩))
  go_ret
  exact ⟨rfl, below_next B2 b5⟩

set_option maxRecDepth 100000 in
set_option maxHeartbeats 2000000 in
theorem rnYb {w : World} {p0 p1 p2 p3 W H : Int} {x0 : Led} {y : Led} {z : Int} (hbig : 65536 < p2) (hx0 : Led.new p0 p1 65536 p3 = x0) (ok : x0.Ok) (hs : sideHyp W H) (hyb : y.bytes = z) (hw : ¬ p0 < W) (hh : ¬ p1 < H) (hwz : IntKind.i64.wrap (4 * W * H) = z) (hz : ¬ 65536 < z) (hN : ∀ (w : World) (g : Nat), LedAt w g x0 → Calls Try.prog 40 #[.pointer (some ⟨g, 0, none⟩), .int .i64 W, .int .i64 H] w fun e w' => ∃ r, e = .returned (.tuple #[.pointer (some ⟨r, 0, none⟩), .int .i64 0]) ∧ LedAt w' g y ∧ Turn [g] w w') : Calls Try.prog 8 #[.agg #[.int .i64 p0, .int .i64 p1, .int .i64 p2, .int .i64 p3], .int .i64 W, .int .i64 H] w fun e w' => e = .returned (.bool true) ∧ Below w.heap.size w w' := by
  have HX0 := Lib.hid hx0
  have HOK := Lib.hid ok
  have HS := Lib.hid hs
  have HBY := Lib.hid hyb
  have w1a : ¬ W < 1 := by have := hs.1.1; omega
  have w1b : ¬ 16384 < W := by have := hs.1.2; omega
  have h1a : ¬ H < 1 := by have := hs.2.1; omega
  have h1b : ¬ 16384 < H := by have := hs.2.2; omega
  have HN := Lib.hid hN
  have hz2 : decide (65536 < z) = false := decide_eq_false hz
  clear hyb hs hN
  clear hx0 ok
  go_enter Try.func8, Try.ntmps8
  go_wp2_with (first
    | (go_at_call 15; refine (ledNew_at HX0.out _).mono ?_; rintro e w1 ⟨g, rfl, hgB, h0, b0⟩; have K1 : Blk w1 w.heap.size 30 #[.int .i64 p0, .int .i64 p1, .int .i64 65536, .int .i64 p3] := Blk.below (Blk.new w _ _) b0 (by simp); have B1 := below_next ((Below.refl _ w).alloc (Nat.le_refl _) (.cells #[.int .i64 p0, .int .i64 p1, .int .i64 65536, .int .i64 p3] 30)) b0; have hgw : w.heap.size < g := (by simp at hgB; omega); have c0 : w1.cell? ⟨w.heap.size, 0, none⟩ = some (.int .i64 p0) := Blk.cell K1 0; have c1 : w1.cell? ⟨w.heap.size, 1, none⟩ = some (.int .i64 p1) := Blk.cell K1 1; have c2 : w1.cell? ⟨w.heap.size, 2, none⟩ = some (.int .i64 65536) := Blk.cell K1 2; have c3 : w1.cell? ⟨w.heap.size, 3, none⟩ = some (.int .i64 p3) := Blk.cell K1 3; have lk := Blk.lt K1)
    | (go_at_call 40; have := kn; refine (rasNew_nil _ _ _).mono ?_; rintro e w9 ⟨rfl, rfl⟩)
    | (go_at_call 40; refine (HN.out _ _ h0).mono ?_; rintro e w2 ⟨r, rfl, l2, t2⟩; have K2 : Blk w2 w.heap.size 30 #[.int .i64 p0, .int .i64 p1, .int .i64 65536, .int .i64 p3] := Blk.turn K1 t2 (by simp; omega); clear c0 c1 c2 c3 lk; have c0 : w2.cell? ⟨w.heap.size, 0, none⟩ = some (.int .i64 p0) := Blk.cell K2 0; have c1 : w2.cell? ⟨w.heap.size, 1, none⟩ = some (.int .i64 p1) := Blk.cell K2 1; have c2 : w2.cell? ⟨w.heap.size, 2, none⟩ = some (.int .i64 65536) := Blk.cell K2 2; have B2 := Turn.belowNext B1 t2 (by simp; omega) B1.size; have kn := trivial)
    | (go_at_call 27; refine (bytes_at l2 HBY.out).mono ?_; rintro e w9 ⟨rfl, rfl⟩)
    | (go_at_call 42; refine (awake07_any _).mono ?_; rintro e w5 ⟨rfl, b5⟩))
  go_ret
  exact ⟨rfl, below_next B2 b5⟩

set_option maxRecDepth 100000 in
set_option maxHeartbeats 2000000 in
theorem rnW1n {w : World} {p0 p1 p2 p3 W H : Int} {x0 : Led} {y : Led} {z : Int} (hbig : ¬ 65536 < p2) (hx0 : Led.new p0 p1 p2 p3 = x0) (ok : x0.Ok) (hr : x0.reason = 0) (hw : W < 1) : Calls Try.prog 8 #[.agg #[.int .i64 p0, .int .i64 p1, .int .i64 p2, .int .i64 p3], .int .i64 W, .int .i64 H] w fun e w' => e = .returned (.bool true) ∧ Below w.heap.size w w' := by
  have HX0 := Lib.hid hx0
  have HOK := Lib.hid ok
  have HBR : Hid (decide (x0.reason ≠ 0) = false) := Lib.hid (by rw [hr]; rfl)
  clear hx0 ok
  go_enter Try.func8, Try.ntmps8
  go_wp2_with (first
    | (go_at_call 15; refine (ledNew_at HX0.out _).mono ?_; rintro e w1 ⟨g, rfl, hgB, h0, b0⟩; have K1 : Blk w1 w.heap.size 30 #[.int .i64 p0, .int .i64 p1, .int .i64 p2, .int .i64 p3] := Blk.below (Blk.new w _ _) b0 (by simp); have B1 := below_next ((Below.refl _ w).alloc (Nat.le_refl _) (.cells #[.int .i64 p0, .int .i64 p1, .int .i64 p2, .int .i64 p3] 30)) b0; have hgw : w.heap.size < g := (by simp at hgB; omega); have c0 : w1.cell? ⟨w.heap.size, 0, none⟩ = some (.int .i64 p0) := Blk.cell K1 0; have c1 : w1.cell? ⟨w.heap.size, 1, none⟩ = some (.int .i64 p1) := Blk.cell K1 1; have c2 : w1.cell? ⟨w.heap.size, 2, none⟩ = some (.int .i64 p2) := Blk.cell K1 2; have c3 : w1.cell? ⟨w.heap.size, 3, none⟩ = some (.int .i64 p3) := Blk.cell K1 3; have lk := Blk.lt K1)
    | (go_at_call 40; have := kn; refine (rasNew_nil _ _ _).mono ?_; rintro e w9 ⟨rfl, rfl⟩)
    | (go_at_call 40; refine (rasNew_rangeW g (by omega) _).mono ?_; rintro e w2 ⟨rfl, rfl⟩; have B2 := B1; have l2 := h0; have kn := trivial)
    | (go_at_call 41; refine (broken_at l2 HBR.out).mono ?_; rintro e w9 ⟨rfl, rfl⟩)
    | (go_at_call 42; refine (awake07_any _).mono ?_; rintro e w5 ⟨rfl, b5⟩))
  go_ret
  exact ⟨rfl, below_next B2 b5⟩

set_option maxRecDepth 100000 in
set_option maxHeartbeats 2000000 in
theorem rnW2n {w : World} {p0 p1 p2 p3 W H : Int} {x0 : Led} {y : Led} {z : Int} (hbig : ¬ 65536 < p2) (hx0 : Led.new p0 p1 p2 p3 = x0) (ok : x0.Ok) (hr : x0.reason = 0) (hw1 : 1 ≤ W) (hw : 16384 < W) : Calls Try.prog 8 #[.agg #[.int .i64 p0, .int .i64 p1, .int .i64 p2, .int .i64 p3], .int .i64 W, .int .i64 H] w fun e w' => e = .returned (.bool true) ∧ Below w.heap.size w w' := by
  have HX0 := Lib.hid hx0
  have HOK := Lib.hid ok
  have HBR : Hid (decide (x0.reason ≠ 0) = false) := Lib.hid (by rw [hr]; rfl)
  have v1 : ¬ W < 1 := by omega
  clear hx0 ok
  go_enter Try.func8, Try.ntmps8
  go_wp2_with (first
    | (go_at_call 15; refine (ledNew_at HX0.out _).mono ?_; rintro e w1 ⟨g, rfl, hgB, h0, b0⟩; have K1 : Blk w1 w.heap.size 30 #[.int .i64 p0, .int .i64 p1, .int .i64 p2, .int .i64 p3] := Blk.below (Blk.new w _ _) b0 (by simp); have B1 := below_next ((Below.refl _ w).alloc (Nat.le_refl _) (.cells #[.int .i64 p0, .int .i64 p1, .int .i64 p2, .int .i64 p3] 30)) b0; have hgw : w.heap.size < g := (by simp at hgB; omega); have c0 : w1.cell? ⟨w.heap.size, 0, none⟩ = some (.int .i64 p0) := Blk.cell K1 0; have c1 : w1.cell? ⟨w.heap.size, 1, none⟩ = some (.int .i64 p1) := Blk.cell K1 1; have c2 : w1.cell? ⟨w.heap.size, 2, none⟩ = some (.int .i64 p2) := Blk.cell K1 2; have c3 : w1.cell? ⟨w.heap.size, 3, none⟩ = some (.int .i64 p3) := Blk.cell K1 3; have lk := Blk.lt K1)
    | (go_at_call 40; have := kn; refine (rasNew_nil _ _ _).mono ?_; rintro e w9 ⟨rfl, rfl⟩)
    | (go_at_call 40; refine (rasNew_rangeW g (by omega) _).mono ?_; rintro e w2 ⟨rfl, rfl⟩; have B2 := B1; have l2 := h0; have kn := trivial)
    | (go_at_call 41; refine (broken_at l2 HBR.out).mono ?_; rintro e w9 ⟨rfl, rfl⟩)
    | (go_at_call 42; refine (awake07_any _).mono ?_; rintro e w5 ⟨rfl, b5⟩))
  go_ret
  exact ⟨rfl, below_next B2 b5⟩

set_option maxRecDepth 100000 in
set_option maxHeartbeats 2000000 in
theorem rnH1n {w : World} {p0 p1 p2 p3 W H : Int} {x0 : Led} {y : Led} {z : Int} (hbig : ¬ 65536 < p2) (hx0 : Led.new p0 p1 p2 p3 = x0) (ok : x0.Ok) (hr : x0.reason = 0) (hw : 1 ≤ W ∧ W ≤ 16384) (hh : H < 1) : Calls Try.prog 8 #[.agg #[.int .i64 p0, .int .i64 p1, .int .i64 p2, .int .i64 p3], .int .i64 W, .int .i64 H] w fun e w' => e = .returned (.bool true) ∧ Below w.heap.size w w' := by
  have HX0 := Lib.hid hx0
  have HOK := Lib.hid ok
  have HBR : Hid (decide (x0.reason ≠ 0) = false) := Lib.hid (by rw [hr]; rfl)
  have v1 : ¬ W < 1 := by omega
  have v2 : ¬ 16384 < W := by omega
  clear hx0 ok
  go_enter Try.func8, Try.ntmps8
  go_wp2_with (first
    | (go_at_call 15; refine (ledNew_at HX0.out _).mono ?_; rintro e w1 ⟨g, rfl, hgB, h0, b0⟩; have K1 : Blk w1 w.heap.size 30 #[.int .i64 p0, .int .i64 p1, .int .i64 p2, .int .i64 p3] := Blk.below (Blk.new w _ _) b0 (by simp); have B1 := below_next ((Below.refl _ w).alloc (Nat.le_refl _) (.cells #[.int .i64 p0, .int .i64 p1, .int .i64 p2, .int .i64 p3] 30)) b0; have hgw : w.heap.size < g := (by simp at hgB; omega); have c0 : w1.cell? ⟨w.heap.size, 0, none⟩ = some (.int .i64 p0) := Blk.cell K1 0; have c1 : w1.cell? ⟨w.heap.size, 1, none⟩ = some (.int .i64 p1) := Blk.cell K1 1; have c2 : w1.cell? ⟨w.heap.size, 2, none⟩ = some (.int .i64 p2) := Blk.cell K1 2; have c3 : w1.cell? ⟨w.heap.size, 3, none⟩ = some (.int .i64 p3) := Blk.cell K1 3; have lk := Blk.lt K1)
    | (go_at_call 40; have := kn; refine (rasNew_nil _ _ _).mono ?_; rintro e w9 ⟨rfl, rfl⟩)
    | (go_at_call 40; refine (rasNew_rangeH g hw (by omega) _).mono ?_; rintro e w2 ⟨rfl, rfl⟩; have B2 := B1; have l2 := h0; have kn := trivial)
    | (go_at_call 41; refine (broken_at l2 HBR.out).mono ?_; rintro e w9 ⟨rfl, rfl⟩)
    | (go_at_call 42; refine (awake07_any _).mono ?_; rintro e w5 ⟨rfl, b5⟩))
  go_ret
  exact ⟨rfl, below_next B2 b5⟩

set_option maxRecDepth 100000 in
set_option maxHeartbeats 2000000 in
theorem rnH2n {w : World} {p0 p1 p2 p3 W H : Int} {x0 : Led} {y : Led} {z : Int} (hbig : ¬ 65536 < p2) (hx0 : Led.new p0 p1 p2 p3 = x0) (ok : x0.Ok) (hr : x0.reason = 0) (hw : 1 ≤ W ∧ W ≤ 16384) (hh1 : 1 ≤ H) (hh : 16384 < H) : Calls Try.prog 8 #[.agg #[.int .i64 p0, .int .i64 p1, .int .i64 p2, .int .i64 p3], .int .i64 W, .int .i64 H] w fun e w' => e = .returned (.bool true) ∧ Below w.heap.size w w' := by
  have HX0 := Lib.hid hx0
  have HOK := Lib.hid ok
  have HBR : Hid (decide (x0.reason ≠ 0) = false) := Lib.hid (by rw [hr]; rfl)
  have v1 : ¬ W < 1 := by omega
  have v2 : ¬ 16384 < W := by omega
  have v3 : ¬ H < 1 := by omega
  have v4 : decide (16384 < H) = true := decide_eq_true hh
  clear hx0 ok
  go_enter Try.func8, Try.ntmps8
  go_wp2_with (first
    | (go_at_call 15; refine (ledNew_at HX0.out _).mono ?_; rintro e w1 ⟨g, rfl, hgB, h0, b0⟩; have K1 : Blk w1 w.heap.size 30 #[.int .i64 p0, .int .i64 p1, .int .i64 p2, .int .i64 p3] := Blk.below (Blk.new w _ _) b0 (by simp); have B1 := below_next ((Below.refl _ w).alloc (Nat.le_refl _) (.cells #[.int .i64 p0, .int .i64 p1, .int .i64 p2, .int .i64 p3] 30)) b0; have hgw : w.heap.size < g := (by simp at hgB; omega); have c0 : w1.cell? ⟨w.heap.size, 0, none⟩ = some (.int .i64 p0) := Blk.cell K1 0; have c1 : w1.cell? ⟨w.heap.size, 1, none⟩ = some (.int .i64 p1) := Blk.cell K1 1; have c2 : w1.cell? ⟨w.heap.size, 2, none⟩ = some (.int .i64 p2) := Blk.cell K1 2; have c3 : w1.cell? ⟨w.heap.size, 3, none⟩ = some (.int .i64 p3) := Blk.cell K1 3; have lk := Blk.lt K1)
    | (go_at_call 40; have := kn; refine (rasNew_nil _ _ _).mono ?_; rintro e w9 ⟨rfl, rfl⟩)
    | (go_at_call 40; refine (rasNew_rangeH g hw (by omega) _).mono ?_; rintro e w2 ⟨rfl, rfl⟩; have B2 := B1; have l2 := h0; have kn := trivial)
    | (go_at_call 41; refine (broken_at l2 HBR.out).mono ?_; rintro e w9 ⟨rfl, rfl⟩)
    | (go_at_call 42; refine (awake07_any _).mono ?_; rintro e w5 ⟨rfl, b5⟩))
  go_ret
  exact ⟨rfl, below_next B2 b5⟩

set_option maxRecDepth 100000 in
set_option maxHeartbeats 2000000 in
theorem rnSWn {w : World} {p0 p1 p2 p3 W H : Int} {x0 : Led} {y : Led} {z : Int} (hbig : ¬ 65536 < p2) (hx0 : Led.new p0 p1 p2 p3 = x0) (ok : x0.Ok) (hs : sideHyp W H) (hyr : decide (y.reason ≠ 0) = true) (hyb : y.bytes = 0) (hw : p0 < W) (he : x0.sides W H = (y, false)) : Calls Try.prog 8 #[.agg #[.int .i64 p0, .int .i64 p1, .int .i64 p2, .int .i64 p3], .int .i64 W, .int .i64 H] w fun e w' => e = .returned (.bool true) ∧ Below w.heap.size w w' := by
  have HX0 := Lib.hid hx0
  have HOK := Lib.hid ok
  have HS := Lib.hid hs
  have HBR := Lib.hid hyr
  have HBY := Lib.hid hyb
  have w1a : ¬ W < 1 := by have := hs.1.1; omega
  have w1b : ¬ 16384 < W := by have := hs.1.2; omega
  have h1a : ¬ H < 1 := by have := hs.2.1; omega
  have h1b : ¬ 16384 < H := by have := hs.2.2; omega
  have HE := Lib.hid he
  clear he hyr hyb hs
  clear hx0 ok
  go_enter Try.func8, Try.ntmps8
  go_wp2_with (first
    | (go_at_call 15; refine (ledNew_at HX0.out _).mono ?_; rintro e w1 ⟨g, rfl, hgB, h0, b0⟩; have K1 : Blk w1 w.heap.size 30 #[.int .i64 p0, .int .i64 p1, .int .i64 p2, .int .i64 p3] := Blk.below (Blk.new w _ _) b0 (by simp); have B1 := below_next ((Below.refl _ w).alloc (Nat.le_refl _) (.cells #[.int .i64 p0, .int .i64 p1, .int .i64 p2, .int .i64 p3] 30)) b0; have hgw : w.heap.size < g := (by simp at hgB; omega); have c0 : w1.cell? ⟨w.heap.size, 0, none⟩ = some (.int .i64 p0) := Blk.cell K1 0; have c1 : w1.cell? ⟨w.heap.size, 1, none⟩ = some (.int .i64 p1) := Blk.cell K1 1; have c2 : w1.cell? ⟨w.heap.size, 2, none⟩ = some (.int .i64 p2) := Blk.cell K1 2; have c3 : w1.cell? ⟨w.heap.size, 3, none⟩ = some (.int .i64 p3) := Blk.cell K1 3; have lk := Blk.lt K1)
    | (go_at_call 40; have := kn; refine (rasNew_nil _ _ _).mono ?_; rintro e w9 ⟨rfl, rfl⟩)
    | (go_at_call 40; refine (rasNew_sides HS.out h0 HOK.out HE.out).mono ?_; rintro e w2 ⟨rfl, l2, t2⟩; have K2 : Blk w2 w.heap.size 30 #[.int .i64 p0, .int .i64 p1, .int .i64 p2, .int .i64 p3] := Blk.turn K1 t2 (by simp; omega); clear c0 c1 c2 c3 lk; have c0 : w2.cell? ⟨w.heap.size, 0, none⟩ = some (.int .i64 p0) := Blk.cell K2 0; have c1 : w2.cell? ⟨w.heap.size, 1, none⟩ = some (.int .i64 p1) := Blk.cell K2 1; have c2 : w2.cell? ⟨w.heap.size, 2, none⟩ = some (.int .i64 p2) := Blk.cell K2 2; have B2 := Turn.belowNext B1 t2 (by simp; omega) B1.size; have kn := trivial)
    | (go_at_call 41; refine (broken_at l2 HBR.out).mono ?_; rintro e w9 ⟨rfl, rfl⟩)
    | (go_at_call 27; refine (bytes_at l2 HBY.out).mono ?_; rintro e w9 ⟨rfl, rfl⟩)
    | (go_at_call 42; refine (awake07_any _).mono ?_; rintro e w5 ⟨rfl, b5⟩))
  go_ret
  exact ⟨rfl, below_next B2 b5⟩

set_option maxRecDepth 100000 in
set_option maxHeartbeats 2000000 in
theorem rnSHn {w : World} {p0 p1 p2 p3 W H : Int} {x0 : Led} {y : Led} {z : Int} (hbig : ¬ 65536 < p2) (hx0 : Led.new p0 p1 p2 p3 = x0) (ok : x0.Ok) (hs : sideHyp W H) (hyr : decide (y.reason ≠ 0) = true) (hyb : y.bytes = 0) (hw : ¬ p0 < W) (hh : p1 < H) (he : x0.sides W H = (y, false)) : Calls Try.prog 8 #[.agg #[.int .i64 p0, .int .i64 p1, .int .i64 p2, .int .i64 p3], .int .i64 W, .int .i64 H] w fun e w' => e = .returned (.bool true) ∧ Below w.heap.size w w' := by
  have HX0 := Lib.hid hx0
  have HOK := Lib.hid ok
  have HS := Lib.hid hs
  have HBR := Lib.hid hyr
  have HBY := Lib.hid hyb
  have w1a : ¬ W < 1 := by have := hs.1.1; omega
  have w1b : ¬ 16384 < W := by have := hs.1.2; omega
  have h1a : ¬ H < 1 := by have := hs.2.1; omega
  have h1b : ¬ 16384 < H := by have := hs.2.2; omega
  have HE := Lib.hid he
  clear he hyr hyb hs
  clear hx0 ok
  go_enter Try.func8, Try.ntmps8
  go_wp2_with (first
    | (go_at_call 15; refine (ledNew_at HX0.out _).mono ?_; rintro e w1 ⟨g, rfl, hgB, h0, b0⟩; have K1 : Blk w1 w.heap.size 30 #[.int .i64 p0, .int .i64 p1, .int .i64 p2, .int .i64 p3] := Blk.below (Blk.new w _ _) b0 (by simp); have B1 := below_next ((Below.refl _ w).alloc (Nat.le_refl _) (.cells #[.int .i64 p0, .int .i64 p1, .int .i64 p2, .int .i64 p3] 30)) b0; have hgw : w.heap.size < g := (by simp at hgB; omega); have c0 : w1.cell? ⟨w.heap.size, 0, none⟩ = some (.int .i64 p0) := Blk.cell K1 0; have c1 : w1.cell? ⟨w.heap.size, 1, none⟩ = some (.int .i64 p1) := Blk.cell K1 1; have c2 : w1.cell? ⟨w.heap.size, 2, none⟩ = some (.int .i64 p2) := Blk.cell K1 2; have c3 : w1.cell? ⟨w.heap.size, 3, none⟩ = some (.int .i64 p3) := Blk.cell K1 3; have lk := Blk.lt K1)
    | (go_at_call 40; have := kn; refine (rasNew_nil _ _ _).mono ?_; rintro e w9 ⟨rfl, rfl⟩)
    | (go_at_call 40; refine (rasNew_sides HS.out h0 HOK.out HE.out).mono ?_; rintro e w2 ⟨rfl, l2, t2⟩; have K2 : Blk w2 w.heap.size 30 #[.int .i64 p0, .int .i64 p1, .int .i64 p2, .int .i64 p3] := Blk.turn K1 t2 (by simp; omega); clear c0 c1 c2 c3 lk; have c0 : w2.cell? ⟨w.heap.size, 0, none⟩ = some (.int .i64 p0) := Blk.cell K2 0; have c1 : w2.cell? ⟨w.heap.size, 1, none⟩ = some (.int .i64 p1) := Blk.cell K2 1; have c2 : w2.cell? ⟨w.heap.size, 2, none⟩ = some (.int .i64 p2) := Blk.cell K2 2; have B2 := Turn.belowNext B1 t2 (by simp; omega) B1.size; have kn := trivial)
    | (go_at_call 41; refine (broken_at l2 HBR.out).mono ?_; rintro e w9 ⟨rfl, rfl⟩)
    | (go_at_call 27; refine (bytes_at l2 HBY.out).mono ?_; rintro e w9 ⟨rfl, rfl⟩)
    | (go_at_call 42; refine (awake07_any _).mono ?_; rintro e w5 ⟨rfl, b5⟩))
  go_ret
  exact ⟨rfl, below_next B2 b5⟩

set_option maxRecDepth 100000 in
set_option maxHeartbeats 2000000 in
theorem rnTn {w : World} {p0 p1 p2 p3 W H : Int} {x0 : Led} {y : Led} {z : Int} (hbig : ¬ 65536 < p2) (hx0 : Led.new p0 p1 p2 p3 = x0) (ok : x0.Ok) (hs : sideHyp W H) (hyr : decide (y.reason ≠ 0) = true) (hyb : y.bytes = 0) (hw : ¬ p0 < W) (hh : ¬ p1 < H) (hwz : IntKind.i64.wrap (4 * W * H) = z) (hz : p2 < z) (hN : ∀ (w : World) (g : Nat), LedAt w g x0 → Calls Try.prog 40 #[.pointer (some ⟨g, 0, none⟩), .int .i64 W, .int .i64 H] w fun e w' => e = .returned (.tuple #[.pointer none, .int .i64 4]) ∧ LedAt w' g y ∧ Turn [g] w w') : Calls Try.prog 8 #[.agg #[.int .i64 p0, .int .i64 p1, .int .i64 p2, .int .i64 p3], .int .i64 W, .int .i64 H] w fun e w' => e = .returned (.bool true) ∧ Below w.heap.size w w' := by
  have HX0 := Lib.hid hx0
  have HOK := Lib.hid ok
  have HS := Lib.hid hs
  have HBR := Lib.hid hyr
  have HBY := Lib.hid hyb
  have w1a : ¬ W < 1 := by have := hs.1.1; omega
  have w1b : ¬ 16384 < W := by have := hs.1.2; omega
  have h1a : ¬ H < 1 := by have := hs.2.1; omega
  have h1b : ¬ 16384 < H := by have := hs.2.2; omega
  have HN := Lib.hid hN
  have hz2 : decide (p2 < z) = true := decide_eq_true hz
  clear hyr hyb hs hN
  clear hx0 ok
  go_enter Try.func8, Try.ntmps8
  go_wp2_with (first
    | (go_at_call 15; refine (ledNew_at HX0.out _).mono ?_; rintro e w1 ⟨g, rfl, hgB, h0, b0⟩; have K1 : Blk w1 w.heap.size 30 #[.int .i64 p0, .int .i64 p1, .int .i64 p2, .int .i64 p3] := Blk.below (Blk.new w _ _) b0 (by simp); have B1 := below_next ((Below.refl _ w).alloc (Nat.le_refl _) (.cells #[.int .i64 p0, .int .i64 p1, .int .i64 p2, .int .i64 p3] 30)) b0; have hgw : w.heap.size < g := (by simp at hgB; omega); have c0 : w1.cell? ⟨w.heap.size, 0, none⟩ = some (.int .i64 p0) := Blk.cell K1 0; have c1 : w1.cell? ⟨w.heap.size, 1, none⟩ = some (.int .i64 p1) := Blk.cell K1 1; have c2 : w1.cell? ⟨w.heap.size, 2, none⟩ = some (.int .i64 p2) := Blk.cell K1 2; have c3 : w1.cell? ⟨w.heap.size, 3, none⟩ = some (.int .i64 p3) := Blk.cell K1 3; have lk := Blk.lt K1)
    | (go_at_call 40; have := kn; refine (rasNew_nil _ _ _).mono ?_; rintro e w9 ⟨rfl, rfl⟩)
    | (go_at_call 40; refine (HN.out _ _ h0).mono ?_; rintro e w2 ⟨rfl, l2, t2⟩; have K2 : Blk w2 w.heap.size 30 #[.int .i64 p0, .int .i64 p1, .int .i64 p2, .int .i64 p3] := Blk.turn K1 t2 (by simp; omega); clear c0 c1 c2 c3 lk; have c0 : w2.cell? ⟨w.heap.size, 0, none⟩ = some (.int .i64 p0) := Blk.cell K2 0; have c1 : w2.cell? ⟨w.heap.size, 1, none⟩ = some (.int .i64 p1) := Blk.cell K2 1; have c2 : w2.cell? ⟨w.heap.size, 2, none⟩ = some (.int .i64 p2) := Blk.cell K2 2; have B2 := Turn.belowNext B1 t2 (by simp; omega) B1.size; have kn := trivial)
    | (go_at_call 41; refine (broken_at l2 HBR.out).mono ?_; rintro e w9 ⟨rfl, rfl⟩)
    | (go_at_call 27; refine (bytes_at l2 HBY.out).mono ?_; rintro e w9 ⟨rfl, rfl⟩)
    | (go_at_call 42; refine (awake07_any _).mono ?_; rintro e w5 ⟨rfl, b5⟩))
  go_ret
  exact ⟨rfl, below_next B2 b5⟩

set_option maxRecDepth 100000 in
set_option maxHeartbeats 2000000 in
theorem rnYn {w : World} {p0 p1 p2 p3 W H : Int} {x0 : Led} {y : Led} {z : Int} (hbig : ¬ 65536 < p2) (hx0 : Led.new p0 p1 p2 p3 = x0) (ok : x0.Ok) (hs : sideHyp W H) (hyb : y.bytes = z) (hw : ¬ p0 < W) (hh : ¬ p1 < H) (hwz : IntKind.i64.wrap (4 * W * H) = z) (hz : ¬ p2 < z) (hN : ∀ (w : World) (g : Nat), LedAt w g x0 → Calls Try.prog 40 #[.pointer (some ⟨g, 0, none⟩), .int .i64 W, .int .i64 H] w fun e w' => ∃ r, e = .returned (.tuple #[.pointer (some ⟨r, 0, none⟩), .int .i64 0]) ∧ LedAt w' g y ∧ Turn [g] w w') : Calls Try.prog 8 #[.agg #[.int .i64 p0, .int .i64 p1, .int .i64 p2, .int .i64 p3], .int .i64 W, .int .i64 H] w fun e w' => e = .returned (.bool true) ∧ Below w.heap.size w w' := by
  have HX0 := Lib.hid hx0
  have HOK := Lib.hid ok
  have HS := Lib.hid hs
  have HBY := Lib.hid hyb
  have w1a : ¬ W < 1 := by have := hs.1.1; omega
  have w1b : ¬ 16384 < W := by have := hs.1.2; omega
  have h1a : ¬ H < 1 := by have := hs.2.1; omega
  have h1b : ¬ 16384 < H := by have := hs.2.2; omega
  have HN := Lib.hid hN
  have hz2 : decide (p2 < z) = false := decide_eq_false hz
  clear hyb hs hN
  clear hx0 ok
  go_enter Try.func8, Try.ntmps8
  go_wp2_with (first
    | (go_at_call 15; refine (ledNew_at HX0.out _).mono ?_; rintro e w1 ⟨g, rfl, hgB, h0, b0⟩; have K1 : Blk w1 w.heap.size 30 #[.int .i64 p0, .int .i64 p1, .int .i64 p2, .int .i64 p3] := Blk.below (Blk.new w _ _) b0 (by simp); have B1 := below_next ((Below.refl _ w).alloc (Nat.le_refl _) (.cells #[.int .i64 p0, .int .i64 p1, .int .i64 p2, .int .i64 p3] 30)) b0; have hgw : w.heap.size < g := (by simp at hgB; omega); have c0 : w1.cell? ⟨w.heap.size, 0, none⟩ = some (.int .i64 p0) := Blk.cell K1 0; have c1 : w1.cell? ⟨w.heap.size, 1, none⟩ = some (.int .i64 p1) := Blk.cell K1 1; have c2 : w1.cell? ⟨w.heap.size, 2, none⟩ = some (.int .i64 p2) := Blk.cell K1 2; have c3 : w1.cell? ⟨w.heap.size, 3, none⟩ = some (.int .i64 p3) := Blk.cell K1 3; have lk := Blk.lt K1)
    | (go_at_call 40; have := kn; refine (rasNew_nil _ _ _).mono ?_; rintro e w9 ⟨rfl, rfl⟩)
    | (go_at_call 40; refine (HN.out _ _ h0).mono ?_; rintro e w2 ⟨r, rfl, l2, t2⟩; have K2 : Blk w2 w.heap.size 30 #[.int .i64 p0, .int .i64 p1, .int .i64 p2, .int .i64 p3] := Blk.turn K1 t2 (by simp; omega); clear c0 c1 c2 c3 lk; have c0 : w2.cell? ⟨w.heap.size, 0, none⟩ = some (.int .i64 p0) := Blk.cell K2 0; have c1 : w2.cell? ⟨w.heap.size, 1, none⟩ = some (.int .i64 p1) := Blk.cell K2 1; have c2 : w2.cell? ⟨w.heap.size, 2, none⟩ = some (.int .i64 p2) := Blk.cell K2 2; have B2 := Turn.belowNext B1 t2 (by simp; omega) B1.size; have kn := trivial)
    | (go_at_call 27; refine (bytes_at l2 HBY.out).mono ?_; rintro e w9 ⟨rfl, rfl⟩)
    | (go_at_call 42; refine (awake07_any _).mono ?_; rintro e w5 ⟨rfl, b5⟩))
  go_ret
  exact ⟨rfl, below_next B2 b5⟩

def T7 : Led := ⟨0, 0, 0, 0, 0, 0, 0, 0, 0⟩
theorem rn_sideb (w : World) (p0 p1 p2 p3 : Int) (hp : fits p0 ∧ fits p1 ∧ fits p2 ∧ fits p3) (W H : Int) (hbig : 65536 < p2) : Calls Try.prog 8 #[.agg #[.int .i64 p0, .int .i64 p1, .int .i64 p2, .int .i64 p3], .int .i64 W, .int .i64 H] w fun e w' => e = .returned (.bool true) ∧ Below w.heap.size w w' := by
  have ok : (Led.new p0 p1 65536 p3).Ok := Led.ok_new hp.1.2 hp.2.1.2 (by omega) hp.2.2.2.2
  by_cases w1 : W < 1
  · exact rnW1b (y := T7) (z := 0) hbig rfl ok rfl w1
  by_cases w2 : 16384 < W
  · exact rnW2b (y := T7) (z := 0) hbig rfl ok rfl (by omega) w2
  by_cases h1 : H < 1
  · exact rnH1b (y := T7) (z := 0) hbig rfl ok rfl (by omega) h1
  by_cases h2 : 16384 < H
  · exact rnH2b (y := T7) (z := 0) hbig rfl ok rfl (by omega) (by omega) h2
  have hs : sideHyp W H := ⟨by omega, by omega⟩
  by_cases hw : p0 < W
  · exact rnSWb (y := (Led.new p0 p1 65536 p3).refused 1 W) (z := 0) hbig rfl ok hs rfl rfl hw (by
      unfold Led.sides
      rw [if_neg (by simp [Led.new]), if_pos (.inr (by show nought p0 < W; unfold nought; split <;> omega))])
  by_cases hh : p1 < H
  · exact rnSHb (y := (Led.new p0 p1 65536 p3).refused 1 H) (z := 0) hbig rfl ok hs rfl rfl hw hh (by
      unfold Led.sides
      rw [if_neg (by simp [Led.new]), if_neg (by show ¬ (W < 1 ∨ nought p0 < W); unfold nought; split <;> omega), if_pos (.inr (by show nought p1 < H; unfold nought; split <;> omega))])
  have hsd : (Led.new p0 p1 65536 p3).sides W H = (Led.new p0 p1 65536 p3, true) := by
    unfold Led.sides
    rw [if_neg (by simp [Led.new]), if_neg (by show ¬ (W < 1 ∨ nought p0 < W); unfold nought; split <;> omega), if_neg (by show ¬ (H < 1 ∨ nought p1 < H); unfold nought; split <;> omega)]
  obtain ⟨Wn, rfl⟩ := Int.eq_ofNat_of_zero_le (show 0 ≤ W by omega)
  obtain ⟨Hn, rfl⟩ := Int.eq_ofNat_of_zero_le (show 0 ≤ H by omega)
  obtain ⟨y0, hy0⟩ : ∃ y0, Wn * Hn = y0 := ⟨_, rfl⟩
  have hyb : y0 ≤ 16384 * 16384 := by rw [← hy0]; exact Nat.mul_le_mul (by omega) (by omega)
  have hyp : 1 ≤ y0 := by rw [← hy0]; exact Nat.mul_pos (by omega) (by omega)
  obtain ⟨z0, hz0⟩ : ∃ z0, y0 * 4 = z0 := ⟨_, rfl⟩
  have hwz : IntKind.i64.wrap (4 * (Wn : Int) * (Hn : Int)) = (z0 : Int) := by
    have e : 4 * (Wn : Int) * (Hn : Int) = (z0 : Int) := by
      rw [Int.mul_assoc, ← Int.natCast_mul, hy0]; omega
    rw [e]
    exact IntWalk.i64_in _ (by omega)
  by_cases hz : 65536 < (z0 : Int)
  · have ht : (Led.new p0 p1 65536 p3).take (z0 : Int) = ((Led.new p0 p1 65536 p3).refused 2 z0, false) := by
      unfold Led.take
      rw [if_neg (by simp [Led.new]), if_pos (.inr (by show nought 65536 - 0 < (z0 : Int); unfold nought; split <;> omega))]
    exact rnTb (y := (Led.new p0 p1 65536 p3).refused 2 z0) (z := z0) hbig rfl ok hs rfl rfl hw hh hwz hz (fun w g hl => rasNew_take hs hy0 hz0 (by omega) hl ok hsd ht)
  · obtain ⟨y, hy⟩ : ∃ y, (Led.new p0 p1 65536 p3).take (z0 : Int) = (y, true) ∧ y.bytes = (z0 : Int) := by
      unfold Led.take
      rw [if_neg (by simp [Led.new]), if_neg (by show ¬ ((z0 : Int) < 0 ∨ nought 65536 - 0 < (z0 : Int)); unfold nought; split <;> omega)]
      exact ⟨_, rfl, by simp [Led.new]⟩
    exact rnYb (y := y) (z := z0) hbig rfl ok hs hy.2 hw hh hwz hz (fun w g hl => (rasNew_yes hs hy0 hz0 (by omega) hl ok hsd hy.1).mono (by
      rintro e w' ⟨r, b, d, rfl, _, _, _, _, _, q1, q2⟩
      exact ⟨r, rfl, q1, q2⟩))
theorem rn_siden (w : World) (p0 p1 p2 p3 : Int) (hp : fits p0 ∧ fits p1 ∧ fits p2 ∧ fits p3) (W H : Int) (hbig : ¬ 65536 < p2) : Calls Try.prog 8 #[.agg #[.int .i64 p0, .int .i64 p1, .int .i64 p2, .int .i64 p3], .int .i64 W, .int .i64 H] w fun e w' => e = .returned (.bool true) ∧ Below w.heap.size w w' := by
  have ok : (Led.new p0 p1 p2 p3).Ok := Led.ok_new hp.1.2 hp.2.1.2 hp.2.2.1.2 hp.2.2.2.2
  by_cases w1 : W < 1
  · exact rnW1n (y := T7) (z := 0) hbig rfl ok rfl w1
  by_cases w2 : 16384 < W
  · exact rnW2n (y := T7) (z := 0) hbig rfl ok rfl (by omega) w2
  by_cases h1 : H < 1
  · exact rnH1n (y := T7) (z := 0) hbig rfl ok rfl (by omega) h1
  by_cases h2 : 16384 < H
  · exact rnH2n (y := T7) (z := 0) hbig rfl ok rfl (by omega) (by omega) h2
  have hs : sideHyp W H := ⟨by omega, by omega⟩
  by_cases hw : p0 < W
  · exact rnSWn (y := (Led.new p0 p1 p2 p3).refused 1 W) (z := 0) hbig rfl ok hs rfl rfl hw (by
      unfold Led.sides
      rw [if_neg (by simp [Led.new]), if_pos (.inr (by show nought p0 < W; unfold nought; split <;> omega))])
  by_cases hh : p1 < H
  · exact rnSHn (y := (Led.new p0 p1 p2 p3).refused 1 H) (z := 0) hbig rfl ok hs rfl rfl hw hh (by
      unfold Led.sides
      rw [if_neg (by simp [Led.new]), if_neg (by show ¬ (W < 1 ∨ nought p0 < W); unfold nought; split <;> omega), if_pos (.inr (by show nought p1 < H; unfold nought; split <;> omega))])
  have hsd : (Led.new p0 p1 p2 p3).sides W H = (Led.new p0 p1 p2 p3, true) := by
    unfold Led.sides
    rw [if_neg (by simp [Led.new]), if_neg (by show ¬ (W < 1 ∨ nought p0 < W); unfold nought; split <;> omega), if_neg (by show ¬ (H < 1 ∨ nought p1 < H); unfold nought; split <;> omega)]
  obtain ⟨Wn, rfl⟩ := Int.eq_ofNat_of_zero_le (show 0 ≤ W by omega)
  obtain ⟨Hn, rfl⟩ := Int.eq_ofNat_of_zero_le (show 0 ≤ H by omega)
  obtain ⟨y0, hy0⟩ : ∃ y0, Wn * Hn = y0 := ⟨_, rfl⟩
  have hyb : y0 ≤ 16384 * 16384 := by rw [← hy0]; exact Nat.mul_le_mul (by omega) (by omega)
  have hyp : 1 ≤ y0 := by rw [← hy0]; exact Nat.mul_pos (by omega) (by omega)
  obtain ⟨z0, hz0⟩ : ∃ z0, y0 * 4 = z0 := ⟨_, rfl⟩
  have hwz : IntKind.i64.wrap (4 * (Wn : Int) * (Hn : Int)) = (z0 : Int) := by
    have e : 4 * (Wn : Int) * (Hn : Int) = (z0 : Int) := by
      rw [Int.mul_assoc, ← Int.natCast_mul, hy0]; omega
    rw [e]
    exact IntWalk.i64_in _ (by omega)
  by_cases hz : p2 < (z0 : Int)
  · have ht : (Led.new p0 p1 p2 p3).take (z0 : Int) = ((Led.new p0 p1 p2 p3).refused 2 z0, false) := by
      unfold Led.take
      rw [if_neg (by simp [Led.new]), if_pos (.inr (by show nought p2 - 0 < (z0 : Int); unfold nought; split <;> omega))]
    exact rnTn (y := (Led.new p0 p1 p2 p3).refused 2 z0) (z := z0) hbig rfl ok hs rfl rfl hw hh hwz hz (fun w g hl => rasNew_take hs hy0 hz0 (by omega) hl ok hsd ht)
  · obtain ⟨y, hy⟩ : ∃ y, (Led.new p0 p1 p2 p3).take (z0 : Int) = (y, true) ∧ y.bytes = (z0 : Int) := by
      unfold Led.take
      rw [if_neg (by simp [Led.new]), if_neg (by show ¬ ((z0 : Int) < 0 ∨ nought p2 - 0 < (z0 : Int)); unfold nought; split <;> omega)]
      exact ⟨_, rfl, by simp [Led.new]⟩
    exact rnYn (y := y) (z := z0) hbig rfl ok hs hy.2 hw hh hwz hz (fun w g hl => (rasNew_yes hs hy0 hz0 (by omega) hl ok hsd hy.1).mono (by
      rintro e w' ⟨r, b, d, rfl, _, _, _, _, _, q1, q2⟩
      exact ⟨r, rfl, q1, q2⟩))
theorem rasterNew_said (w : World) (p0 p1 p2 p3 : Int) (hp : fits p0 ∧ fits p1 ∧ fits p2 ∧ fits p3) (W : Int) (hW : (Lit.int .i64 W).wf = true) (H : Int) (hH : (Lit.int .i64 H).wf = true) : Calls Try.prog 8 #[.agg #[.int .i64 p0, .int .i64 p1, .int .i64 p2, .int .i64 p3], .int .i64 W, .int .i64 H] w fun e w' => e = .returned (.bool true) ∧ Below w.heap.size w w' := by
  by_cases hbig : 65536 < p2
  · exact rn_sideb w p0 p1 p2 p3 hp W H hbig
  · exact rn_siden w p0 p1 p2 p3 hp W H hbig

end Go.Proofs.Ytegoakfhadmblaa
