/- raster.New. -/
import Derived.Test.YtfgcbhcfekonnaaNum2
import Derived.Test.YtfgcbhcfekonnaaBuf
namespace Go.Proofs.Ytfgcbhcfekonnaa
open Go.RowKit
set_option linter.unusedVariables false
set_option linter.unusedSimpArgs false

def rasC (g b : Nat) (W H : Int) (o : Bool) : Array Value := #[.pointer (some ⟨g, 0, none⟩), .int .i64 W, .int .i64 H, .pointer (some ⟨b, 0, none⟩), .bool o]
def RasAt (w : World) (r g b : Nat) (W H : Int) (o : Bool) : Prop := Blk w r 95 (rasC g b W H o)
section
variable {w : World} {r g b : Nat} {W H : Int} {o : Bool}
theorem RasAt.l (h : RasAt w r g b W H o) : w.cell? ⟨r, 0, none⟩ = some (.pointer (some ⟨g, 0, none⟩)) := Blk.cell h 0
theorem RasAt.w_ (h : RasAt w r g b W H o) : w.cell? ⟨r, 1, none⟩ = some (.int .i64 W) := Blk.cell h 1
theorem RasAt.h_ (h : RasAt w r g b W H o) : w.cell? ⟨r, 2, none⟩ = some (.int .i64 H) := Blk.cell h 2
theorem RasAt.b_ (h : RasAt w r g b W H o) : w.cell? ⟨r, 3, none⟩ = some (.pointer (some ⟨b, 0, none⟩)) := Blk.cell h 3
theorem RasAt.o_ (h : RasAt w r g b W H o) : w.cell? ⟨r, 4, none⟩ = some (.bool o) := Blk.cell h 4
end
theorem side_any (n : Int) (w : World) : Calls Try.prog 37 #[.int .i64 n] w fun e w' => e = .returned (.bool (decide (1 ≤ n ∧ n ≤ 16384))) ∧ w = w' := by
  by_cases h1 : 1 ≤ n
  · by_cases h2 : n ≤ 16384
    · rw [decide_eq_true (And.intro h1 h2)]
      go_enter Try.func37, Try.ntmps37
      go_wp2_with fail
      go_ret
      exact ⟨ret1 (vbool (by first | rfl | (simp; done) | (simp; omega))), rfl⟩
    · rw [decide_eq_false (by omega)]
      go_enter Try.func37, Try.ntmps37
      go_wp2_with fail
      go_ret
      exact ⟨ret1 (vbool (by first | rfl | (simp; done) | (simp; omega))), rfl⟩
  · rw [decide_eq_false (by omega)]
    go_enter Try.func37, Try.ntmps37
    go_wp2_with fail
    go_ret
    exact ⟨ret1 (vbool (by first | rfl | (simp; done) | (simp; omega))), rfl⟩
theorem sideIs {n : Int} {b : Bool} (h : decide (1 ≤ n ∧ n ≤ 16384) = b) (w : World) : Calls Try.prog 37 #[.int .i64 n] w fun e w' => e = .returned (.bool b) ∧ w = w' := by
  rw [← h]
  exact side_any n w

theorem rasNew_nil (W H : Int) (w : World) : Calls Try.prog 9 #[.pointer none, .int .i64 W, .int .i64 H] w fun e w' => e = .returned (.tuple #[.pointer none, .int .i64 1]) ∧ w = w' := by
  go_enter Try.func9, Try.ntmps9
  go_wp2_with fail
  go_ret2
  exact ⟨rfl, rfl⟩
theorem rasNew_rangeW (g : Nat) {W H : Int} (h : ¬ (1 ≤ W ∧ W ≤ 16384)) (w : World) : Calls Try.prog 9 #[.pointer (some ⟨g, 0, none⟩), .int .i64 W, .int .i64 H] w fun e w' => e = .returned (.tuple #[.pointer none, .int .i64 2]) ∧ w = w' := by
  have S1 := Lib.hid (fun w => sideIs (n := W) (b := false) (decide_eq_false h) w)
  clear h
  go_enter Try.func9, Try.ntmps9
  go_wp2_with (go_at_call 37; refine (S1.out _).mono ?_; rintro e w9 ⟨rfl, rfl⟩)
  go_ret2
  exact ⟨rfl, rfl⟩
theorem rasNew_rangeH (g : Nat) {W H : Int} (h1 : 1 ≤ W ∧ W ≤ 16384) (h : ¬ (1 ≤ H ∧ H ≤ 16384)) (w : World) : Calls Try.prog 9 #[.pointer (some ⟨g, 0, none⟩), .int .i64 W, .int .i64 H] w fun e w' => e = .returned (.tuple #[.pointer none, .int .i64 2]) ∧ w = w' := by
  have S1 := Lib.hid (fun w => sideIs (n := W) (b := true) (decide_eq_true h1) w)
  have S2 := Lib.hid (fun w => sideIs (n := H) (b := false) (decide_eq_false h) w)
  clear h h1
  go_enter Try.func9, Try.ntmps9
  go_wp2_with (go_at_call 37; first | (have := k1; refine (S2.out _).mono ?_; rintro e w9 ⟨rfl, rfl⟩) | (refine (S1.out _).mono ?_; rintro e w9 ⟨rfl, rfl⟩; have k1 := trivial))
  go_ret2
  exact ⟨rfl, rfl⟩
def sideHyp (W H : Int) : Prop := (1 ≤ W ∧ W ≤ 16384) ∧ (1 ≤ H ∧ H ≤ 16384)
theorem rasNew_sides {g : Nat} {W H : Int} {w : World} {x y : Led} (hs : sideHyp W H) (h : LedAt w g x) (ok : x.Ok) (e : x.sides W H = (y, false)) : Calls Try.prog 9 #[.pointer (some ⟨g, 0, none⟩), .int .i64 W, .int .i64 H] w fun e w' => e = .returned (.tuple #[.pointer none, .int .i64 4]) ∧ LedAt w' g y ∧ Turn [g] w w' := by
  have S1 := Lib.hid (fun w => sideIs (n := W) (b := true) (decide_eq_true hs.1) w)
  have S2 := Lib.hid (fun w => sideIs (n := H) (b := true) (decide_eq_true hs.2) w)
  have HL := Lib.hid h
  have HK := Lib.hid ok
  have HE := Lib.hid e
  clear h ok e hs
  go_enter Try.func9, Try.ntmps9
  go_wp2_with (first
    | (go_at_call 38; refine (sides_at HL.out HK.out HE.out).mono ?_; rintro e w1 ⟨rfl, l1, b1⟩)
    | (go_at_call 37; first | (have := k1; refine (S2.out _).mono ?_; rintro e w9 ⟨rfl, rfl⟩) | (refine (S1.out _).mono ?_; rintro e w9 ⟨rfl, rfl⟩; have k1 := trivial)))
  go_ret2
  exact ⟨rfl, l1, Turn.of_grown b1 (by simp)⟩
set_option maxRecDepth 100000 in
theorem rasNew_take {g W H y z : Nat} {w : World} {x x2 : Led} (hs : sideHyp W H) (hy : W * H = y) (hz : y * 4 = z) (hz1 : z ≤ 4294967296) (h : LedAt w g x) (ok : x.Ok) (e : x.sides W H = (x, true)) (e2 : x.take z = (x2, false)) : Calls Try.prog 9 #[.pointer (some ⟨g, 0, none⟩), .int .i64 (W : Int), .int .i64 (H : Int)] w fun e w' => e = .returned (.tuple #[.pointer none, .int .i64 4]) ∧ LedAt w' g x2 ∧ Turn [g] w w' := by
  have S1 := Lib.hid (fun w => sideIs (n := (W : Int)) (b := true) (decide_eq_true hs.1) w)
  have S2 := Lib.hid (fun w => sideIs (n := (H : Int)) (b := true) (decide_eq_true hs.2) w)
  have hW : W ≤ 4294967296 := by have := hs.1.2; omega
  have hH : H ≤ 4294967296 := by have := hs.2.2; omega
  have HP := Lib.hid (fun (w : World) (gg : Nat) c0 c1 c2 => numProduct_three (w := w) (g := gg) (a := W) (b := H) (y := y) (z := z) c0 c1 c2 hy hz hW hH hz1)
  have HL := Lib.hid h
  have HK := Lib.hid ok
  have HE := Lib.hid e
  have HE2 := Lib.hid e2
  clear h ok e e2 hs hy hz
  go_enter Try.func9, Try.ntmps9
  go_wp2_with (first
    | (go_at_call 38; refine (sides_at HL.out HK.out HE.out).mono ?_; rintro e w1 ⟨rfl, l1, b1⟩)
    | (go_at_call 37; first | (have := k1; refine (S2.out _).mono ?_; rintro e w9 ⟨rfl, rfl⟩) | (refine (S1.out _).mono ?_; rintro e w9 ⟨rfl, rfl⟩; have k1 := trivial))
    | (go_at_call 39; refine (HP.out _ _ (cell_new _ _ _ 0 _ rfl) (cell_new _ _ _ 1 _ rfl) (cell_new _ _ _ 2 _ rfl)).mono ?_; rintro e w2 ⟨rfl, b2⟩; have l2 := Blk.below (Blk.alloc l1 _) b2 (Blk.lt (Blk.alloc l1 _)))
    | (go_at_call 40; refine (bufMake_no l2 HK.out HE2.out (by omega)).mono ?_; rintro e w3 ⟨rfl, l3, t3⟩))
  go_ret2
  exact ⟨rfl, l3, (((Turn.of_grown b1 (by simp)).alloc _).trans (Turn.of_below b2)).trans t3⟩
set_option maxRecDepth 100000 in
theorem rasNew_yes {g W H y z : Nat} {w : World} {x x2 : Led} (hs : sideHyp W H) (hy : W * H = y) (hz : y * 4 = z) (hz1 : z ≤ 4294967296) (h : LedAt w g x) (ok : x.Ok) (e : x.sides W H = (x, true)) (e2 : x.take z = (x2, true)) : Calls Try.prog 9 #[.pointer (some ⟨g, 0, none⟩), .int .i64 (W : Int), .int .i64 (H : Int)] w fun e w' => ∃ r b d, e = .returned (.tuple #[.pointer (some ⟨r, 0, none⟩), .int .i64 0]) ∧ w.heap.size ≤ r ∧ w.heap.size ≤ b ∧ w.heap.size ≤ d ∧ RasAt w' r g b W H true ∧ BufAt w' b g d (List.replicate z 0) ∧ LedAt w' g x2 ∧ Turn [g] w w' := by
  have S1 := Lib.hid (fun w => sideIs (n := (W : Int)) (b := true) (decide_eq_true hs.1) w)
  have S2 := Lib.hid (fun w => sideIs (n := (H : Int)) (b := true) (decide_eq_true hs.2) w)
  have hW : W ≤ 4294967296 := by have := hs.1.2; omega
  have hH : H ≤ 4294967296 := by have := hs.2.2; omega
  have HP := Lib.hid (fun (w : World) (gg : Nat) c0 c1 c2 => numProduct_three (w := w) (g := gg) (a := W) (b := H) (y := y) (z := z) c0 c1 c2 hy hz hW hH hz1)
  have HL := Lib.hid h
  have HK := Lib.hid ok
  have HE := Lib.hid e
  have HE2 := Lib.hid e2
  clear h ok e e2 hs hy hz
  go_enter Try.func9, Try.ntmps9
  go_wp2_with (first
    | (go_at_call 38; refine (sides_at HL.out HK.out HE.out).mono ?_; rintro e w1 ⟨rfl, l1, b1⟩)
    | (go_at_call 37; first | (have := k1; refine (S2.out _).mono ?_; rintro e w9 ⟨rfl, rfl⟩) | (refine (S1.out _).mono ?_; rintro e w9 ⟨rfl, rfl⟩; have k1 := trivial))
    | (go_at_call 39; refine (HP.out _ _ (cell_new _ _ _ 0 _ rfl) (cell_new _ _ _ 1 _ rfl) (cell_new _ _ _ 2 _ rfl)).mono ?_; rintro e w2 ⟨rfl, b2⟩; have l2 := Blk.below (Blk.alloc l1 _) b2 (Blk.lt (Blk.alloc l1 _)))
    | (go_at_call 40; refine (bufMake_yes (n := z) l2 HK.out HE2.out (by omega)).mono ?_; rintro e w3 ⟨b, d, rfl, m3, l3, hb, hd, t3⟩))
  go_ret2
  have t2 : Turn [g] w w2 := ((Turn.of_grown b1 (by simp)).alloc _).trans (Turn.of_below b2)
  have s2 := t2.size
  have s3 := t3.size
  exact ⟨w3.heap.size, b, d, rfl, by omega, by omega, by omega, Blk.new _ _ _, ⟨m3.blk.alloc _, m3.row.alloc _⟩, Blk.alloc l3 _, (t2.trans t3).alloc _⟩
end Go.Proofs.Ytfgcbhcfekonnaa
