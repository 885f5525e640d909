/- The document's raster: Image. The document's image as api has it: Plain. A pixel of an image. append of one value of one cell onto a row that the call owns. A clone of an image. A pixel of an image, where there is one. A pixel of an image, the document's. awake of chapter 7. A pixel, in whole numbers; what the law keeps. strings.HasPrefix. HasPrefix; Wide. farbfeld: what a run by a wide budget tells; the document's Decode whole; heads; awake. farbfeld: awake; heads. The law FfDecodes. Arguments opened: slices of structs of one-cell fields; colours. farbfeld: a run by any budget. Arguments opened: a budget; a slice of the ledger's calls. The law FfBudgets: words. -/
import Derived.Test.YthljhebbblhakaaGreatDoorEFfRef3
import Derived.Deep.RegionLaw
import Derived.Deep.RegionHeld3
import Derived.Test.YthljhebbblhakaaGreatDoorERas
import Derived.Lib.ConvBytes
import Derived.Test.YthljhebbblhakaaGreatDoorEWords
import Derived.Deep.OwnRows
import Derived.Lib.SliceRun
import Derived.BigRegion
import Derived.Test.YthljhebbblhakaaGreatDoorProg
import Derived.ProofKit
import Derived.OpenShut
import Derived.Deep.Slices
import Derived.Deep.Fields
import Derived.ChangeSame
import Derived.Lib.SmallJoins
namespace Go.Proofs.YthljhebbblhakaaGreatDoor
open Go.RowKit
set_option linter.unusedVariables false
set_option linter.unusedSimpArgs false

theorem BytesAt.far {w : World} {b off n k i : Nat} {u : Value} {l : List UInt8} (h : BytesAt w (some ⟨b, off, none⟩) n l) (hk : b ≠ k) : BytesAt (w.setCell ⟨k, i, none⟩ u) (some ⟨b, off, none⟩) n l := by
  obtain ⟨h1, h0 | ⟨b', off', e, hc⟩⟩ := h
  · exact ⟨h1, .inl h0⟩
  · simp only [Option.some.injEq, Addr.mk.injEq] at e
    obtain ⟨rfl, rfl, _⟩ := e
    exact ⟨h1, .inr ⟨b, off, rfl, fun j hj => (World.cell?_of_block (Below.heap_setCell w ⟨k, i, none⟩ u b hk)).trans (hc j hj)⟩⟩
end Go.Proofs.YthljhebbblhakaaGreatDoor
namespace Go.Proofs.YthljhebbblhakaaGreatDoor
open Go.RowKit
set_option linter.unusedVariables false
set_option linter.unusedSimpArgs false

end Go.Proofs.YthljhebbblhakaaGreatDoor
namespace Go.Proofs.YthljhebbblhakaaGreatDoor
open Go.RowKit
set_option linter.unusedVariables false
set_option linter.unusedSimpArgs false

end Go.Proofs.YthljhebbblhakaaGreatDoor
namespace Go.Proofs.YthljhebbblhakaaGreatDoor
open Go.RowKit
set_option linter.unusedVariables false

/-- the slice value v owns the values l, in a block from base on -/
def Owns1 (w : World) (base : Nat) (e : TypeId) (v : Value) (l : List Value) : Prop := w.ownsRow base e 1 v l.length l

section
variable {w w' : World} {base : Nat} {e : TypeId} {v : Value} {l : List Value}
theorem Owns1.nil (w : World) (base : Nat) (e : TypeId) : Owns1 w base e (.slice none 0 0) [] := World.ownsRow_nil _ _ _ _
theorem Owns1.alloc (h : Owns1 w base e v l) (o : Obj) : Owns1 (w.alloc o) base e v l := World.ownsRow.alloc h o
theorem Owns1.drew (h : Owns1 w base e v l) : Owns1 w.drew base e v l := h
theorem Owns1.drewN (h : Owns1 w base e v l) (n : Nat) : Owns1 (w.drewN n) base e v l := h
theorem Owns1.kept {row : Option Nat} (h : Owns1 w base e v l) (hg : w.grownBy w' row) (hne : v.ownBlock = none ∨ v.ownBlock ≠ row) : Owns1 w' base e v l := World.ownsRow.kept h hg hne
theorem Owns1.below (h : Owns1 w base e v l) {a : World} {B : Nat} (hb : Below B a w) (hB : B ≤ base) (hw : base ≤ w.heap.size) (hg : w.grownBy w' v.ownBlock) : Below B a w' :=
  hb.grown hg (Nat.le_trans hB hw) fun k hk => Nat.le_trans hB (World.ownsRow.lt h k hk).1
theorem Owns1.stays {B : Nat} (h : Owns1 w base e v l) (hb : Below B w w') (hB : w.heap.size ≤ B) : Owns1 w' base e v l :=
  h.kept (row := none) ⟨hb.os, hb.tape, hb.output, hb.size, fun i hi _ => hb.block i (by omega)⟩ (by cases v.ownBlock <;> simp)
/-- the slice's cells -/
theorem Owns1.form (h : Owns1 w base e v l) : (v = .slice none 0 0 ∧ l = []) ∨ ∃ g cap, v = .slice (some ⟨g, 0, none⟩) l.length cap ∧ base ≤ g ∧ g < w.heap.size ∧ l.length ≤ cap ∧ cap ≤ maxLen ∧ ∀ j, j < l.length → w.cell? ⟨g, j, none⟩ = l[j]? := by
  rcases h.2 with ⟨rfl, hn⟩ | ⟨g, cap, cur, rfl, hb, hg, hc, hm, hs, ht⟩
  · exact .inl ⟨rfl, List.eq_nil_of_length_eq_zero hn⟩
  · refine .inr ⟨g, cap, rfl, hb, (World.ownsRow.lt h g rfl).2, hc, hm, fun j hj => ?_⟩
    rw [cell_of_row w g j cur e (0, 0) hg, ← Array.getElem?_toList]
    have : l[j]? = (cur.toList.take (l.length * 1))[j]? := by rw [ht]
    rw [this, List.getElem?_take_of_lt (by omega)]
end

end Go.Proofs.YthljhebbblhakaaGreatDoor
namespace Go.Proofs.YthljhebbblhakaaGreatDoor
open Go.RowKit
set_option linter.unusedVariables false
set_option linter.unusedSimpArgs false

theorem BytesAt.set {w : World} {a : Option Addr} {n : Nat} {l : List UInt8} (h : BytesAt w a n l) (k i : Nat) (u : Value) (hk : ∀ b off, a = some ⟨b, off, none⟩ → b ≠ k) : BytesAt (w.setCell ⟨k, i, none⟩ u) a n l := by
  obtain ⟨h1, h0 | ⟨b, off, rfl, hc⟩⟩ := h
  · exact ⟨h1, .inl h0⟩
  · exact ⟨h1, .inr ⟨b, off, rfl, fun j hj => (World.cell?_of_block (Below.heap_setCell w ⟨k, i, none⟩ u b (hk b off rfl))).trans (hc j hj)⟩⟩
end Go.Proofs.YthljhebbblhakaaGreatDoor
namespace Go.Proofs.YthljhebbblhakaaGreatDoor
open Go.RowKit
set_option linter.unusedVariables false
set_option linter.unusedSimpArgs false

theorem right_true {W H : Int} {a : Option Addr} {n c : Nat} (h : RightP W H n) (w : World) : Calls Tryz.prog 24 #[.agg #[.int .i64 W, .int .i64 H, .slice a n c]] w fun e w' => e = .returned (.bool true) ∧ Below w.heap.size w w' := by
  have := right_any W H a n c w
  rw [decide_eq_true h] at this
  exact this
set_option maxRecDepth 100000 in
set_option maxHeartbeats 400000 in
theorem pixel_yes {W H X Y p i : Nat} {bb off n c : Nat} {l : List UInt8} {c0 c1 c2 c3 : UInt8} {w : World} (hr : RightP (W : Int) (H : Int) n) (hl : n = l.length) (hc : ∀ j (hj : j < l.length), w.cell? ⟨bb, off + j, none⟩ = some (.int .u8 (l[j].toNat : Int))) (hnc : n ≤ c) (hX : X < W) (hY : Y < H) (hp : Y * W = p) (hi : 4 * (p + X) = i) (hin : i + 4 ≤ n) (hq : (l.drop i).take 4 = [c0, c1, c2, c3]) :
    Calls Tryz.prog 26 #[.agg #[.int .i64 (W : Int), .int .i64 (H : Int), .slice (some ⟨bb, off, none⟩) n c], .int .i64 (X : Int), .int .i64 (Y : Int)] w fun e w' => e = .returned (.tuple #[.agg #[.int .u8 (c0.toNat : Int), .int .u8 (c1.toNat : Int), .int .u8 (c2.toNat : Int), .int .u8 (c3.toNat : Int)], .bool true]) ∧ Below w.heap.size w w' := by
  have hw := hr.1
  have hh := hr.2.1
  have hpb : p ≤ 16384 * 16384 := by rw [← hp]; exact Nat.mul_le_mul (by omega) (by omega)
  have at_ : ∀ j, j < 4 → ∃ h : j < [c0, c1, c2, c3].length, w.cell? ⟨bb, off + (i + j), none⟩ = some (.int .u8 (([c0, c1, c2, c3][j]'h).toNat : Int)) := by
    intro j hj
    refine ⟨by simpa using hj, ?_⟩
    rw [hc (i + j) (by omega)]
    have e : l[i + j]'(by omega) = [c0, c1, c2, c3][j]'(by simpa using hj) := by
      have : ((l.drop i).take 4)[j]? = [c0, c1, c2, c3][j]? := by rw [hq]
      rw [List.getElem?_take_of_lt hj, List.getElem?_drop, List.getElem?_eq_getElem (by omega), List.getElem?_eq_getElem (by simpa using hj)] at this
      exact Option.some.inj this
    rw [e]
  have d0 : w.cell? ⟨bb, off + i, none⟩ = some (.int .u8 (c0.toNat : Int)) := (at_ 0 (by decide)).2
  have d1 : w.cell? ⟨bb, off + (i + 1), none⟩ = some (.int .u8 (c1.toNat : Int)) := (at_ 1 (by decide)).2
  have d2 : w.cell? ⟨bb, off + (i + 2), none⟩ = some (.int .u8 (c2.toNat : Int)) := (at_ 2 (by decide)).2
  have d3 : w.cell? ⟨bb, off + (i + 3), none⟩ = some (.int .u8 (c3.toNat : Int)) := (at_ 3 (by decide)).2
  have hbw := World.block_lt_of_cell? w _ d0
  have hwp : IntKind.i64.wrap ((Y : Int) * (W : Int)) = (p : Int) := by
    have e : (Y : Int) * (W : Int) = (p : Int) := by rw [← hp]; exact (Int.natCast_mul Y W).symm
    rw [e]
    exact IntWalk.i64_in _ (by omega)
  have hii : 4 * ((p : Int) + (X : Int)) = (i : Int) := by omega
  have HR := Lib.hid (right_true (a := some ⟨bb, off, none⟩) (c := c) hr)
  have I0 : Blk ((w.alloc (.cells #[.int .i64 (W : Int), .int .i64 (H : Int), .slice (some ⟨bb, off, none⟩) n c] 24)).alloc (.cells #[.int .u8 0, .int .u8 0, .int .u8 0, .int .u8 0] 48)) w.heap.size 24 #[.int .i64 (W : Int), .int .i64 (H : Int), .slice (some ⟨bb, off, none⟩) n c] := (Blk.new _ _ _).alloc _
  have R0 : CB ((w.alloc (.cells #[.int .i64 (W : Int), .int .i64 (H : Int), .slice (some ⟨bb, off, none⟩) n c] 24)).alloc (.cells #[.int .u8 0, .int .u8 0, .int .u8 0, .int .u8 0] 48)) (w.heap.size + 1) 0 0 0 0 := Blk.new_at _ _ _ (by simp)
  have B0 : Below w.heap.size w ((w.alloc (.cells #[.int .i64 (W : Int), .int .i64 (H : Int), .slice (some ⟨bb, off, none⟩) n c] 24)).alloc (.cells #[.int .u8 0, .int .u8 0, .int .u8 0, .int .u8 0] 48)) := ((Below.refl _ _).alloc (Nat.le_refl _) _).alloc (by simp) _
  have x0 : ¬ (X : Int) < 0 := by omega
  have x1 : ¬ (W : Int) ≤ (X : Int) := by omega
  have y0 : ¬ (Y : Int) < 0 := by omega
  have y1 : ¬ (H : Int) ≤ (Y : Int) := by omega
  have s1 : (0 : Int) ≤ (i : Int) := by omega
  have s2 : (i : Int) + 4 ≤ (n : Int) := by omega
  have s3 : (i : Int) + 4 ≤ (c : Int) := by omega
  have hib : i ≤ 1099511627776 := by omega
  have hXb : X ≤ 16384 := by omega
  have D : Aside ((w.cell? ⟨bb, off + i, none⟩ = some (.int .u8 (c0.toNat : Int)) ∧ w.cell? ⟨bb, off + (i + 1), none⟩ = some (.int .u8 (c1.toNat : Int))) ∧ (w.cell? ⟨bb, off + (i + 2), none⟩ = some (.int .u8 (c2.toNat : Int)) ∧ w.cell? ⟨bb, off + (i + 3), none⟩ = some (.int .u8 (c3.toNat : Int)))) := ⟨⟨d0, d1⟩, ⟨d2, d3⟩⟩
  have HBW := Lib.hid hbw
  clear hr hc hq hp hi at_ hw hh hl d0 d1 d2 d3 hbw
  go_enter Tryz.func26, Tryz.ntmps26
  go_wp2_with (go_at_call 24; refine (HR.out _).mono ?_; rintro e w1 ⟨rfl, b1⟩; have I1 := Blk.below I0 b1 (Blk.lt I0); have R1 : CB w1 (w.heap.size + 1) 0 0 0 0 := Blk.below R0 b1 (Blk.lt R0); have B1 := below_next B0 b1; have i0 : w1.cell? ⟨w.heap.size, 0, none⟩ = some (.int .i64 (W : Int)) := Blk.cell I1 0; have i1 : w1.cell? ⟨w.heap.size, 1, none⟩ = some (.int .i64 (H : Int)) := Blk.cell I1 1; have i2 : w1.cell? ⟨w.heap.size, 2, none⟩ = some (.slice (some ⟨bb, off, none⟩) n c) := Blk.cell I1 2)
  have hbw := HBW.out
  have f0 := (B1.cell (p := ⟨bb, off + i, none⟩) hbw).trans D.out.1.1
  have f1 := (B1.cell (p := ⟨bb, off + (i + 1), none⟩) hbw).trans D.out.1.2
  have f2 := (B1.cell (p := ⟨bb, off + (i + 2), none⟩) hbw).trans D.out.2.1
  have f3 := (B1.cell (p := ⟨bb, off + (i + 3), none⟩) hbw).trans D.out.2.2
  have r0 := R1.c0
  have r1 := R1.c1
  have r2 := R1.c2
  have r3 := R1.c3
  have z0 := Blk.frozen R1 0
  have z1 := Blk.frozen R1 1
  have z2 := Blk.frozen R1 2
  have z3 := Blk.frozen R1 3
  have lr := Blk.lt R1
  have hnb : w.heap.size + 1 ≠ bb := by omega
  have g1 : off + i + 1 = off + (i + 1) := by omega
  have g2 : off + i + 2 = off + (i + 2) := by omega
  have g3 : off + i + 3 = off + (i + 3) := by omega
  rw [← g1] at f1
  rw [← g2] at f2
  rw [← g3] at f3
  clear g1 g2 g3 I0 R0 B0 b1 HBW HR hwp hii
  go_region
  all_goals go_wp2_with fail
  have fz : CB (st4 w1 (w.heap.size + 1) (c0.toNat : Int) (c1.toNat : Int) (c2.toNat : Int) (c3.toNat : Int)).drew (w.heap.size + 1) (c0.toNat : Int) (c1.toNat : Int) (c2.toNat : Int) (c3.toNat : Int) := Blk.drew R1.store
  have tz : Below w.heap.size w (st4 w1 (w.heap.size + 1) (c0.toNat : Int) (c1.toNat : Int) (c2.toNat : Int) (c3.toNat : Int)).drew := (Below.st4 B1 (by omega)).drew
  change bodyPost _ _ _ _ _ (st4 w1 (w.heap.size + 1) (c0.toNat : Int) (c1.toNat : Int) (c2.toNat : Int) (c3.toNat : Int)).drew
  generalize (st4 w1 (w.heap.size + 1) (c0.toNat : Int) (c1.toNat : Int) (c2.toNat : Int) (c3.toNat : Int)).drew = we at fz tz ⊢
  have q0 := fz.c0
  have q1 := fz.c1
  have q2 := fz.c2
  have q3 := fz.c3
  exact bodyPost_ret (v := .tuple #[.agg #[.int .u8 (c0.toNat : Int), .int .u8 (c1.toNat : Int), .int .u8 (c2.toNat : Int), .int .u8 (c3.toNat : Int)], .bool true]) (by simp [results, Tryz.results26, go_sem, q0, q1, q2, q3]) rfl ⟨rfl, tz⟩
end Go.Proofs.YthljhebbblhakaaGreatDoor
namespace Go.Proofs.YthljhebbblhakaaGreatDoor
open Go.RowKit
set_option linter.unusedVariables false
set_option linter.unusedSimpArgs false

set_option maxRecDepth 100000 in
set_option maxHeartbeats 400000 in
theorem refPixel_yes {W H X Y p i : Nat} {bb off n c : Nat} {l : List UInt8} {c0 c1 c2 c3 : UInt8} {w : World} (hr : RightP (W : Int) (H : Int) n) (hl : n = l.length) (hc : ∀ j (hj : j < l.length), w.cell? ⟨bb, off + j, none⟩ = some (.int .u8 (l[j].toNat : Int))) (hnc : n ≤ c) (hX : X < W) (hY : Y < H) (hp : Y * W = p) (hi : 4 * (p + X) = i) (hin : i + 4 ≤ n) (hq : (l.drop i).take 4 = [c0, c1, c2, c3]) :
    Calls Tryz.prog 30 #[.agg #[.int .i64 (W : Int), .int .i64 (H : Int), .slice (some ⟨bb, off, none⟩) n c], .int .i64 (X : Int), .int .i64 (Y : Int)] w fun e w' => e = .returned (.agg #[.int .u8 (c0.toNat : Int), .int .u8 (c1.toNat : Int), .int .u8 (c2.toNat : Int), .int .u8 (c3.toNat : Int)]) ∧ Below w.heap.size w w' := by
  have hw := hr.1
  have hh := hr.2.1
  have hpb : p ≤ 16384 * 16384 := by rw [← hp]; exact Nat.mul_le_mul (by omega) (by omega)
  have at_ : ∀ j, j < 4 → ∃ h : j < [c0, c1, c2, c3].length, w.cell? ⟨bb, off + (i + j), none⟩ = some (.int .u8 (([c0, c1, c2, c3][j]'h).toNat : Int)) := by
    intro j hj
    refine ⟨by simpa using hj, ?_⟩
    rw [hc (i + j) (by omega)]
    have e : l[i + j]'(by omega) = [c0, c1, c2, c3][j]'(by simpa using hj) := by
      have : ((l.drop i).take 4)[j]? = [c0, c1, c2, c3][j]? := by rw [hq]
      rw [List.getElem?_take_of_lt hj, List.getElem?_drop, List.getElem?_eq_getElem (by omega), List.getElem?_eq_getElem (by simpa using hj)] at this
      exact Option.some.inj this
    rw [e]
  have d0 : w.cell? ⟨bb, off + i, none⟩ = some (.int .u8 (c0.toNat : Int)) := (at_ 0 (by decide)).2
  have d1 : w.cell? ⟨bb, off + (i + 1), none⟩ = some (.int .u8 (c1.toNat : Int)) := (at_ 1 (by decide)).2
  have d2 : w.cell? ⟨bb, off + (i + 2), none⟩ = some (.int .u8 (c2.toNat : Int)) := (at_ 2 (by decide)).2
  have d3 : w.cell? ⟨bb, off + (i + 3), none⟩ = some (.int .u8 (c3.toNat : Int)) := (at_ 3 (by decide)).2
  have hbw := World.block_lt_of_cell? w _ d0
  have hwp : IntKind.i64.wrap ((Y : Int) * (W : Int)) = (p : Int) := by
    have e : (Y : Int) * (W : Int) = (p : Int) := by rw [← hp]; exact (Int.natCast_mul Y W).symm
    rw [e]
    exact IntWalk.i64_in _ (by omega)
  have hii : 4 * ((p : Int) + (X : Int)) = (i : Int) := by omega
  have I0 : Blk ((w.alloc (.cells #[.int .i64 (W : Int), .int .i64 (H : Int), .slice (some ⟨bb, off, none⟩) n c] 24)).alloc (.cells #[.int .u8 0, .int .u8 0, .int .u8 0, .int .u8 0] 48)) w.heap.size 24 #[.int .i64 (W : Int), .int .i64 (H : Int), .slice (some ⟨bb, off, none⟩) n c] := (Blk.new _ _ _).alloc _
  have R0 : CB ((w.alloc (.cells #[.int .i64 (W : Int), .int .i64 (H : Int), .slice (some ⟨bb, off, none⟩) n c] 24)).alloc (.cells #[.int .u8 0, .int .u8 0, .int .u8 0, .int .u8 0] 48)) (w.heap.size + 1) 0 0 0 0 := Blk.new_at _ _ _ (by simp)
  have B0 : Below w.heap.size w ((w.alloc (.cells #[.int .i64 (W : Int), .int .i64 (H : Int), .slice (some ⟨bb, off, none⟩) n c] 24)).alloc (.cells #[.int .u8 0, .int .u8 0, .int .u8 0, .int .u8 0] 48)) := ((Below.refl _ _).alloc (Nat.le_refl _) _).alloc (by simp) _
  have x0 : ¬ (X : Int) < 0 := by omega
  have x1 : ¬ (W : Int) ≤ (X : Int) := by omega
  have y0 : ¬ (Y : Int) < 0 := by omega
  have y1 : ¬ (H : Int) ≤ (Y : Int) := by omega
  have s1 : (0 : Int) ≤ (i : Int) := by omega
  have s2 : (i : Int) + 4 ≤ (n : Int) := by omega
  have s3 : (i : Int) + 4 ≤ (c : Int) := by omega
  have hib : i ≤ 1099511627776 := by omega
  have hXb : X ≤ 16384 := by omega
  have D : Aside ((w.cell? ⟨bb, off + i, none⟩ = some (.int .u8 (c0.toNat : Int)) ∧ w.cell? ⟨bb, off + (i + 1), none⟩ = some (.int .u8 (c1.toNat : Int))) ∧ (w.cell? ⟨bb, off + (i + 2), none⟩ = some (.int .u8 (c2.toNat : Int)) ∧ w.cell? ⟨bb, off + (i + 3), none⟩ = some (.int .u8 (c3.toNat : Int)))) := ⟨⟨d0, d1⟩, ⟨d2, d3⟩⟩
  have HBW := Lib.hid hbw
  clear hr hc hq hp hi at_ hw hh hl d0 d1 d2 d3 hbw x0 x1 y0 y1
  go_enter Tryz.func30, Tryz.ntmps30
  have i0 := Blk.cell I0 0
  have wA : ∃ wA, wA = ((w.alloc (.cells #[.int .i64 (W : Int), .int .i64 (H : Int), .slice (some ⟨bb, off, none⟩) n c] 24)).alloc (.cells #[.int .u8 0, .int .u8 0, .int .u8 0, .int .u8 0] 48)) := ⟨_, rfl⟩
  obtain ⟨w1, hw1⟩ := wA
  go_wp2_with fail
  rw [← hw1] at I0 R0 B0 ⊢
  clear hw1 i0
  have R1 := R0
  have B1 := B0
  have hbw := HBW.out
  have f0 := (B1.cell (p := ⟨bb, off + i, none⟩) hbw).trans D.out.1.1
  have f1 := (B1.cell (p := ⟨bb, off + (i + 1), none⟩) hbw).trans D.out.1.2
  have f2 := (B1.cell (p := ⟨bb, off + (i + 2), none⟩) hbw).trans D.out.2.1
  have f3 := (B1.cell (p := ⟨bb, off + (i + 3), none⟩) hbw).trans D.out.2.2
  have i2 : w1.cell? ⟨w.heap.size, 2, none⟩ = some (.slice (some ⟨bb, off, none⟩) n c) := Blk.cell I0 2
  have r0 := R1.c0
  have r1 := R1.c1
  have r2 := R1.c2
  have r3 := R1.c3
  have z0 := Blk.frozen R1 0
  have z1 := Blk.frozen R1 1
  have z2 := Blk.frozen R1 2
  have z3 := Blk.frozen R1 3
  have lr := Blk.lt R1
  have hnb : w.heap.size + 1 ≠ bb := by omega
  have n0 : (i : Int) < (n : Int) := by omega
  have n1 : (i : Int) + 1 < (n : Int) := by omega
  have n2 : (i : Int) + 2 < (n : Int) := by omega
  have n3 : (i : Int) + 3 < (n : Int) := by omega
  have m0 : i < n := by omega
  have m1 : i + 1 < n := by omega
  have m2 : i + 2 < n := by omega
  have m3 : i + 3 < n := by omega
  clear I0 R0 B0 HBW
  go_region
  all_goals go_wp2_with fail
  have fz : CB (st4 w1 (w.heap.size + 1) (c0.toNat : Int) (c1.toNat : Int) (c2.toNat : Int) (c3.toNat : Int)).drew (w.heap.size + 1) (c0.toNat : Int) (c1.toNat : Int) (c2.toNat : Int) (c3.toNat : Int) := Blk.drew R1.store
  have tz : Below w.heap.size w (st4 w1 (w.heap.size + 1) (c0.toNat : Int) (c1.toNat : Int) (c2.toNat : Int) (c3.toNat : Int)).drew := (Below.st4 B1 (by omega)).drew
  change bodyPost _ _ _ _ _ (st4 w1 (w.heap.size + 1) (c0.toNat : Int) (c1.toNat : Int) (c2.toNat : Int) (c3.toNat : Int)).drew
  generalize (st4 w1 (w.heap.size + 1) (c0.toNat : Int) (c1.toNat : Int) (c2.toNat : Int) (c3.toNat : Int)).drew = we at fz tz ⊢
  have q0 := fz.c0
  have q1 := fz.c1
  have q2 := fz.c2
  have q3 := fz.c3
  exact bodyPost_ret (v := .agg #[.int .u8 (c0.toNat : Int), .int .u8 (c1.toNat : Int), .int .u8 (c2.toNat : Int), .int .u8 (c3.toNat : Int)]) (by simp [results, Tryz.results30, go_sem, q0, q1, q2, q3]) rfl ⟨rfl, tz⟩
end Go.Proofs.YthljhebbblhakaaGreatDoor
namespace Go.Proofs.YthljhebbblhakaaGreatDoor
open Go.RowKit
set_option linter.unusedVariables false
set_option linter.unusedSimpArgs false

def W7 : Led := ⟨2, 1, 8, 9, 0, 0, 0, 0, 0⟩
def W7b : Led := ⟨2, 1, 8, 9, 8, 8, 0, 0, 0⟩
def W7c : Led := ⟨2, 1, 8, 9, 8, 8, 1, 0, 0⟩
theorem W7.ok : W7.Ok := by constructor <;> decide
theorem W7b.ok : W7b.Ok := by constructor <;> decide
theorem W7c.ok : W7c.Ok := by constructor <;> decide
end Go.Proofs.YthljhebbblhakaaGreatDoor
namespace Go.Proofs.YthljhebbblhakaaGreatDoor
open Go.RowKit
set_option linter.unusedVariables false
set_option linter.unusedSimpArgs false

/-- two images in their boxes, and their bytes; a colour in its own -/
structure IC (w0 : World) (g k : Nat) (aW aH : Int) (aa : Option Addr) (an ac : Nat) (al : List UInt8) (bW bH : Int) (ba : Option Addr) (bn bc : Nat) (bl : List UInt8) (p0 p1 p2 p3 : Int) (w : World) : Prop where
  A : Blk w g 24 #[.int .i64 aW, .int .i64 aH, .slice aa an ac]
  B : Blk w (g + 1) 24 #[.int .i64 bW, .int .i64 bH, .slice ba bn bc]
  C : CB w k p0 p1 p2 p3
  a0_ : BytesAt w0 aa an al
  b0_ : BytesAt w0 ba bn bl
  below : Below w0.heap.size w0 w
section
variable {w0 w w' : World} {g k : Nat} {aW aH bW bH : Int} {aa ba : Option Addr} {an ac bn bc : Nat} {al bl : List UInt8} {p0 p1 p2 p3 : Int}
theorem IC.next (h : IC w0 g k aW aH aa an ac al bW bH ba bn bc bl p0 p1 p2 p3 w) (hb : Below w.heap.size w w') : IC w0 g k aW aH aa an ac al bW bH ba bn bc bl p0 p1 p2 p3 w' :=
  ⟨Blk.below h.A hb (Blk.lt h.A), Blk.below h.B hb (Blk.lt h.B), Blk.below h.C hb (Blk.lt h.C), h.a0_, h.b0_, below_next h.below hb⟩
theorem IC.drew (h : IC w0 g k aW aH aa an ac al bW bH ba bn bc bl p0 p1 p2 p3 w) : IC w0 g k aW aH aa an ac al bW bH ba bn bc bl p0 p1 p2 p3 w.drew := h.next (Below.refl _ _).drew
theorem IC.a (h : IC w0 g k aW aH aa an ac al bW bH ba bn bc bl p0 p1 p2 p3 w) : BytesAt w aa an al := h.a0_.below h.below
theorem IC.b (h : IC w0 g k aW aH aa an ac al bW bH ba bn bc bl p0 p1 p2 p3 w) : BytesAt w ba bn bl := h.b0_.below h.below
theorem IC.all (h : IC w0 g k aW aH aa an ac al bW bH ba bn bc bl p0 p1 p2 p3 w) :
    w.cell? ⟨g, 0, none⟩ = some (.int .i64 aW) ∧ w.cell? ⟨g, 1, none⟩ = some (.int .i64 aH) ∧ w.cell? ⟨g, 2, none⟩ = some (.slice aa an ac)
    ∧ w.cell? ⟨g + 1, 0, none⟩ = some (.int .i64 bW) ∧ w.cell? ⟨g + 1, 1, none⟩ = some (.int .i64 bH) ∧ w.cell? ⟨g + 1, 2, none⟩ = some (.slice ba bn bc)
    ∧ w.cell? ⟨k, 0, none⟩ = some (.int .u8 p0) ∧ w.cell? ⟨k, 1, none⟩ = some (.int .u8 p1) ∧ w.cell? ⟨k, 2, none⟩ = some (.int .u8 p2) ∧ w.cell? ⟨k, 3, none⟩ = some (.int .u8 p3)
    ∧ IC w0 g k aW aH aa an ac al bW bH ba bn bc bl p0 p1 p2 p3 w :=
  ⟨Blk.cell h.A 0, Blk.cell h.A 1, Blk.cell h.A 2, Blk.cell h.B 0, Blk.cell h.B 1, Blk.cell h.B 2, Blk.cell h.C 0, Blk.cell h.C 1, Blk.cell h.C 2, Blk.cell h.C 3, h⟩
end
theorem refSame_bool {W H W2 H2 : Int} {l m : List UInt8} {b : Bool} (hb : decide (SameP W H W2 H2 l m) = b) {w : World} {a a' : Option Addr} {n n' c c' : Nat} (h1 : BytesAt w a n l) (h2 : BytesAt w a' n' m) :
    Calls Tryz.prog 12 #[.agg #[.int .i64 W, .int .i64 H, .slice a n c], .agg #[.int .i64 W2, .int .i64 H2, .slice a' n' c']] w fun e w' => e = .returned (.bool b) ∧ Below w.heap.size w w' := by
  subst hb; exact refSame7_any h1 h2
theorem right_bool {W H : Int} {b : Bool} {n : Nat} (hb : decide (RightP W H n) = b) {a : Option Addr} {c : Nat} (w : World) : Calls Tryz.prog 24 #[.agg #[.int .i64 W, .int .i64 H, .slice a n c]] w fun e w' => e = .returned (.bool b) ∧ Below w.heap.size w w' := by
  subst hb; exact right_any W H a n c w
theorem refRight_bool {W H : Int} {b : Bool} {n : Nat} (hb : decide (RightP W H n) = b) {a : Option Addr} {c : Nat} (w : World) : Calls Tryz.prog 8 #[.agg #[.int .i64 W, .int .i64 H, .slice a n c]] w fun e w' => e = .returned (.bool b) ∧ Below w.heap.size w w' := by
  subst hb; exact refRight_any W H a n c w
theorem same_self (W H : Int) (l : List UInt8) : decide (SameP W H W H l l) = true := by simp [SameP]
end Go.Proofs.YthljhebbblhakaaGreatDoor
namespace Go.Proofs.YthljhebbblhakaaGreatDoor
open Go.RowKit
set_option linter.unusedVariables false
set_option linter.unusedSimpArgs false

end Go.Proofs.YthljhebbblhakaaGreatDoor
namespace Go.Proofs.YthljhebbblhakaaGreatDoor
open Go.RowKit
set_option linter.unusedVariables false
set_option linter.unusedSimpArgs false

end Go.Proofs.YthljhebbblhakaaGreatDoor
namespace Go.Proofs.YthljhebbblhakaaGreatDoor
open Go.RowKit
set_option linter.unusedVariables false
set_option linter.unusedSimpArgs false

theorem DRes.bad_inj {k a k' a' : Nat} (h : DRes.bad k a = .bad k' a') : k = k' ∧ a = a' := by injection h; exact ⟨by assumption, by assumption⟩
theorem told_ne {e : Nat} (d : Dec) : ∀ (b : Nat) {k a : Nat}, d.bal e b → d.told = .bad k a → k ≠ 4 ∧ a ≤ e := by
  induction d with
  | fin r =>
    intro b k a hb h
    unfold Dec.told at h
    subst h
    exact hb.2
  | work n fr a k ih => intro b k a hb h; exact ih _ hb.2.2 h
  | sides W H a k ih => intro b k a hb h; exact ih _ hb.2.2 h
  | take n a k ih => intro b k a hb h; exact ih _ hb.2.2 h
  | give n k ih => intro b k a hb h; exact ih _ hb.2 h
  | hold n fr a k ih => intro b k a hb h; exact ih _ hb.2.2 h
end Go.Proofs.YthljhebbblhakaaGreatDoor
namespace Go.Proofs.YthljhebbblhakaaGreatDoor
open Go.RowKit
set_option linter.unusedVariables false
set_option linter.unusedSimpArgs false

end Go.Proofs.YthljhebbblhakaaGreatDoor
namespace Go.Proofs.YthljhebbblhakaaGreatDoor
open Go.RowKit
set_option linter.unusedVariables false
set_option linter.unusedSimpArgs false

end Go.Proofs.YthljhebbblhakaaGreatDoor
namespace Go.Proofs.YthljhebbblhakaaGreatDoor
open Go.ChangeShapes Go.WideShapes Go.Deep Go.RowKit Go.Joins
set_option linter.unusedVariables false

section
variable {H : Type} {enc : TypeId × Value → H} {P : Program} {w : World} {base : Nat} {spare : Nat → Bool} {held : Bool}

end
end Go.Proofs.YthljhebbblhakaaGreatDoor
namespace Go.Proofs.YthljhebbblhakaaGreatDoor
open Go.RowKit
set_option linter.unusedVariables false
set_option linter.unusedSimpArgs false

end Go.Proofs.YthljhebbblhakaaGreatDoor
namespace Go.Proofs.YthljhebbblhakaaGreatDoor
open Go.ChangeShapes Go.WideShapes Go.Deep Go.RowKit Go.Joins
set_option linter.unusedVariables false

section
variable {H : Type} {enc : TypeId × Value → H} {w : World} {base : Nat} {spare : Nat → Bool} {held : Bool}

end
end Go.Proofs.YthljhebbblhakaaGreatDoor
namespace Go.Proofs.YthljhebbblhakaaGreatDoor
open Go.RowKit
set_option linter.unusedVariables false
set_option linter.unusedSimpArgs false

/-- the box of a budget -/
def GB (w : World) (b : Nat) (p0 p1 p2 p3 : Int) : Prop := Blk w b 42 #[.int .i64 p0, .int .i64 p1, .int .i64 p2, .int .i64 p3]
theorem GB.all {w : World} {b : Nat} {p0 p1 p2 p3 : Int} (h : GB w b p0 p1 p2 p3) : w.cell? ⟨b, 0, none⟩ = some (.int .i64 p0) ∧ w.cell? ⟨b, 1, none⟩ = some (.int .i64 p1) ∧ w.cell? ⟨b, 2, none⟩ = some (.int .i64 p2) ∧ w.cell? ⟨b, 3, none⟩ = some (.int .i64 p3) := ⟨Blk.cell h 0, Blk.cell h 1, Blk.cell h 2, Blk.cell h 3⟩
end Go.Proofs.YthljhebbblhakaaGreatDoor
