/- A pixel of an image, where there is one. -/
import Derived.Test.YtojobfnbakiicaaRasImg3
namespace Go.Proofs.Ytojobfnbakiicaa
open Go.RowKit
set_option linter.unusedVariables false
set_option linter.unusedSimpArgs false

theorem right_true {W H : Int} {a : Option Addr} {n c : Nat} (h : RightP W H n) (w : World) : Calls Try.prog 8 #[.agg #[.int .i64 W, .int .i64 H, .slice a n c]] w fun e w' => e = .returned (.bool true) ∧ Below w.heap.size w w' := by
  have := right_any W H a n c w
  rw [decide_eq_true h] at this
  exact this
set_option maxRecDepth 100000 in
set_option maxHeartbeats 400000 in
theorem pixel_yes {W H X Y p i : Nat} {bb off n c : Nat} {l : List UInt8} {c0 c1 c2 c3 : UInt8} {w : World} (hr : RightP (W : Int) (H : Int) n) (hl : n = l.length) (hc : ∀ j (hj : j < l.length), w.cell? ⟨bb, off + j, none⟩ = some (.int .u8 (l[j].toNat : Int))) (hnc : n ≤ c) (hX : X < W) (hY : Y < H) (hp : Y * W = p) (hi : 4 * (p + X) = i) (hin : i + 4 ≤ n) (hq : (l.drop i).take 4 = [c0, c1, c2, c3]) :
    Calls Try.prog 11 #[.agg #[.int .i64 (W : Int), .int .i64 (H : Int), .slice (some ⟨bb, off, none⟩) n c], .int .i64 (X : Int), .int .i64 (Y : Int)] w fun e w' => e = .returned (.tuple #[.agg #[.int .u8 (c0.toNat : Int), .int .u8 (c1.toNat : Int), .int .u8 (c2.toNat : Int), .int .u8 (c3.toNat : Int)], .bool true]) ∧ Below w.heap.size w w' := by
  have hw := hr.1
  have hh := hr.2.1
  have hpb : p ≤ 16384 * 16384 := by rw [← hp]; exact Nat.mul_le_mul (by omega) (by omega)
  have at_ : ∀ j, j < 4 → ∃ h : j < [c0, c1, c2, c3].length, w.cell? ⟨bb, off + (i + j), none⟩ = some (.int .u8 (([c0, c1, c2, c3][j]'h).toNat : Int)) := by
    intro j hj
    refine ⟨by simpa using hj, ?_⟩
    rw [hc (i + j) (by omega)]
    have e : l[i + j]'(by omega) = [c0, c1, c2, c3][j]'(by simpa using hj) := by
      have : ((l.drop i).take 4)[j]? = [c0, c1, c2, c3][j]? := by rw [hq]
      rw [List.getElem?_take_of_lt hj, List.getElem?_drop, List.getElem?_eq_getElem (by omega), List.getElem?_eq_getElem (by simpa using hj)] at this
      exact Option.some.inj this
    rw [e]
  have d0 : w.cell? ⟨bb, off + i, none⟩ = some (.int .u8 (c0.toNat : Int)) := (at_ 0 (by decide)).2
  have d1 : w.cell? ⟨bb, off + (i + 1), none⟩ = some (.int .u8 (c1.toNat : Int)) := (at_ 1 (by decide)).2
  have d2 : w.cell? ⟨bb, off + (i + 2), none⟩ = some (.int .u8 (c2.toNat : Int)) := (at_ 2 (by decide)).2
  have d3 : w.cell? ⟨bb, off + (i + 3), none⟩ = some (.int .u8 (c3.toNat : Int)) := (at_ 3 (by decide)).2
  have hbw := World.block_lt_of_cell? w _ d0
  have hwp : IntKind.i64.wrap ((Y : Int) * (W : Int)) = (p : Int) := by
    have e : (Y : Int) * (W : Int) = (p : Int) := by rw [← hp]; exact (Int.natCast_mul Y W).symm
    rw [e]
    exact IntWalk.i64_in _ (by omega)
  have hii : 4 * ((p : Int) + (X : Int)) = (i : Int) := by omega
  have HR := Lib.hid (right_true (a := some ⟨bb, off, none⟩) (c := c) hr)
  have I0 : Blk ((w.alloc (.cells #[.int .i64 (W : Int), .int .i64 (H : Int), .slice (some ⟨bb, off, none⟩) n c] 26)).alloc (.cells #[.int .u8 0, .int .u8 0, .int .u8 0, .int .u8 0] 23)) w.heap.size 26 #[.int .i64 (W : Int), .int .i64 (H : Int), .slice (some ⟨bb, off, none⟩) n c] := (Blk.new _ _ _).alloc _
  have R0 : CB ((w.alloc (.cells #[.int .i64 (W : Int), .int .i64 (H : Int), .slice (some ⟨bb, off, none⟩) n c] 26)).alloc (.cells #[.int .u8 0, .int .u8 0, .int .u8 0, .int .u8 0] 23)) (w.heap.size + 1) 0 0 0 0 := Blk.new_at _ _ _ (by simp)
  have B0 : Below w.heap.size w ((w.alloc (.cells #[.int .i64 (W : Int), .int .i64 (H : Int), .slice (some ⟨bb, off, none⟩) n c] 26)).alloc (.cells #[.int .u8 0, .int .u8 0, .int .u8 0, .int .u8 0] 23)) := ((Below.refl _ _).alloc (Nat.le_refl _) _).alloc (by simp) _
  have x0 : ¬ (X : Int) < 0 := by omega
  have x1 : ¬ (W : Int) ≤ (X : Int) := by omega
  have y0 : ¬ (Y : Int) < 0 := by omega
  have y1 : ¬ (H : Int) ≤ (Y : Int) := by omega
  have s1 : (0 : Int) ≤ (i : Int) := by omega
  have s2 : (i : Int) + 4 ≤ (n : Int) := by omega
  have s3 : (i : Int) + 4 ≤ (c : Int) := by omega
  have hib : i ≤ 1099511627776 := by omega
  have hXb : X ≤ 16384 := by omega
  have D : Aside ((w.cell? ⟨bb, off + i, none⟩ = some (.int .u8 (c0.toNat : Int)) ∧ w.cell? ⟨bb, off + (i + 1), none⟩ = some (.int .u8 (c1.toNat : Int))) ∧ (w.cell? ⟨bb, off + (i + 2), none⟩ = some (.int .u8 (c2.toNat : Int)) ∧ w.cell? ⟨bb, off + (i + 3), none⟩ = some (.int .u8 (c3.toNat : Int)))) := ⟨⟨d0, d1⟩, ⟨d2, d3⟩⟩
  have HBW := Lib.hid hbw
  clear hr hc hq hp hi at_ hw hh hl d0 d1 d2 d3 hbw
  go_enter Try.func11, Try.ntmps11
  go_wp2_with (go_at_call 8; refine (HR.out _).mono ?_; rintro e w1 ⟨rfl, b1⟩; have I1 := Blk.below I0 b1 (Blk.lt I0); have R1 : CB w1 (w.heap.size + 1) 0 0 0 0 := Blk.below R0 b1 (Blk.lt R0); have B1 := below_next B0 b1; have i0 : w1.cell? ⟨w.heap.size, 0, none⟩ = some (.int .i64 (W : Int)) := Blk.cell I1 0; have i1 : w1.cell? ⟨w.heap.size, 1, none⟩ = some (.int .i64 (H : Int)) := Blk.cell I1 1; have i2 : w1.cell? ⟨w.heap.size, 2, none⟩ = some (.slice (some ⟨bb, off, none⟩) n c) := Blk.cell I1 2)
  have hbw := HBW.out
  have f0 := (B1.cell (p := ⟨bb, off + i, none⟩) hbw).trans D.out.1.1
  have f1 := (B1.cell (p := ⟨bb, off + (i + 1), none⟩) hbw).trans D.out.1.2
  have f2 := (B1.cell (p := ⟨bb, off + (i + 2), none⟩) hbw).trans D.out.2.1
  have f3 := (B1.cell (p := ⟨bb, off + (i + 3), none⟩) hbw).trans D.out.2.2
  have r0 := R1.c0
  have r1 := R1.c1
  have r2 := R1.c2
  have r3 := R1.c3
  have z0 := Blk.frozen R1 0
  have z1 := Blk.frozen R1 1
  have z2 := Blk.frozen R1 2
  have z3 := Blk.frozen R1 3
  have lr := Blk.lt R1
  have hnb : w.heap.size + 1 ≠ bb := by omega
  have g1 : off + i + 1 = off + (i + 1) := by omega
  have g2 : off + i + 2 = off + (i + 2) := by omega
  have g3 : off + i + 3 = off + (i + 3) := by omega
  rw [← g1] at f1
  rw [← g2] at f2
  rw [← g3] at f3
  clear g1 g2 g3 I0 R0 B0 b1 HBW HR hwp hii
  go_region
  all_goals go_wp2_with fail
  have fz : CB (st4 w1 (w.heap.size + 1) (c0.toNat : Int) (c1.toNat : Int) (c2.toNat : Int) (c3.toNat : Int)).drew (w.heap.size + 1) (c0.toNat : Int) (c1.toNat : Int) (c2.toNat : Int) (c3.toNat : Int) := Blk.drew R1.store
  have tz : Below w.heap.size w (st4 w1 (w.heap.size + 1) (c0.toNat : Int) (c1.toNat : Int) (c2.toNat : Int) (c3.toNat : Int)).drew := (Below.st4 B1 (by omega)).drew
  change bodyPost _ _ _ _ _ (st4 w1 (w.heap.size + 1) (c0.toNat : Int) (c1.toNat : Int) (c2.toNat : Int) (c3.toNat : Int)).drew
  generalize (st4 w1 (w.heap.size + 1) (c0.toNat : Int) (c1.toNat : Int) (c2.toNat : Int) (c3.toNat : Int)).drew = we at fz tz ⊢
  have q0 := fz.c0
  have q1 := fz.c1
  have q2 := fz.c2
  have q3 := fz.c3
  exact bodyPost_ret (v := .tuple #[.agg #[.int .u8 (c0.toNat : Int), .int .u8 (c1.toNat : Int), .int .u8 (c2.toNat : Int), .int .u8 (c3.toNat : Int)], .bool true]) (by simp [results, Try.results11, go_sem, q0, q1, q2, q3]) rfl ⟨rfl, tz⟩
end Go.Proofs.Ytojobfnbakiicaa
