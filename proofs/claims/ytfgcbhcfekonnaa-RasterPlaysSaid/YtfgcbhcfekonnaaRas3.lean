/- A raster's Get and Set. -/
import Derived.Test.YtfgcbhcfekonnaaRas2
import Derived.Test.YtfgcbhcfekonnaaTurn
namespace Go.Proofs.Ytfgcbhcfekonnaa
open Go.RowKit
set_option linter.unusedVariables false
set_option linter.unusedSimpArgs false

def colC (a b c d : Int) : Array Value := #[.int .u8 a, .int .u8 b, .int .u8 c, .int .u8 d]
def CB (w : World) (n : Nat) (a b c d : Int) : Prop := Blk w n 39 (colC a b c d)
section
variable {w : World} {n : Nat} {a b c d : Int}
theorem CB.c0 (h : CB w n a b c d) : w.cell? ⟨n, 0, none⟩ = some (.int .u8 a) := Blk.cell h 0
theorem CB.c1 (h : CB w n a b c d) : w.cell? ⟨n, 1, none⟩ = some (.int .u8 b) := Blk.cell h 1
theorem CB.c2 (h : CB w n a b c d) : w.cell? ⟨n, 2, none⟩ = some (.int .u8 c) := Blk.cell h 2
theorem CB.c3 (h : CB w n a b c d) : w.cell? ⟨n, 3, none⟩ = some (.int .u8 d) := Blk.cell h 3
def st4 (w : World) (n : Nat) (a b c d : Int) : World := (((w.setCell ⟨n, 0, none⟩ (.int .u8 a)).setCell ⟨n, 1, none⟩ (.int .u8 b)).setCell ⟨n, 2, none⟩ (.int .u8 c)).setCell ⟨n, 3, none⟩ (.int .u8 d)
theorem CB.store {a' b' c' d' : Int} (h : CB w n a b c d) : CB (st4 w n a' b' c' d') n a' b' c' d' := ((((Blk.set_ h 0 _).set_ 1 _).set_ 2 _).set_ 3 _).eq_ (by simp [colC])
theorem Below.st4 {B : Nat} {a0 : World} (h : Below B a0 w) (hb : B ≤ n) : Below B a0 (st4 w n a b c d) := below_set (below_set (below_set (below_set h hb) hb) hb) hb
end
set_option maxRecDepth 100000 in
theorem color_any {s : ByteArray} {c0 c1 c2 c3 : UInt8} (h : s = strOf [c0, c1, c2, c3]) (w : World) : Calls Try.prog 82 #[.string s] w fun e w' => e = .returned (.agg #[.int .u8 (c0.toNat : Int), .int .u8 (c1.toNat : Int), .int .u8 (c2.toNat : Int), .int .u8 (c3.toNat : Int)]) ∧ Below w.heap.size w w' := by
  have hz : s.size = 4 := by rw [h, strOf_size]; rfl
  have q0 : (0 : Int) < (s.size : Int) := by omega
  have q1 : (1 : Int) < (s.size : Int) := by omega
  have q2 : (2 : Int) < (s.size : Int) := by omega
  have q3 : (3 : Int) < (s.size : Int) := by omega
  have p0 : 0 < s.size := by omega
  have p1 : 1 < s.size := by omega
  have p2 : 2 < s.size := by omega
  have p3 : 3 < s.size := by omega
  have e0 : s[0].toNat = c0.toNat := by subst h; rfl
  have e1 : s[1].toNat = c1.toNat := by subst h; rfl
  have e2 : s[2].toNat = c2.toNat := by subst h; rfl
  have e3 : s[3].toNat = c3.toNat := by subst h; rfl
  have R0 : CB (w.alloc (.cells #[.int .u8 0, .int .u8 0, .int .u8 0, .int .u8 0] 39)) w.heap.size 0 0 0 0 := Blk.new _ _ _
  have B0 : Below w.heap.size w (w.alloc (.cells #[.int .u8 0, .int .u8 0, .int .u8 0, .int .u8 0] 39)) := (Below.refl _ _).alloc (Nat.le_refl _) _
  clear h hz
  go_enter Try.func82, Try.ntmps82
  go_wp2_with fail
  go_region
  all_goals go_wp2_with fail
  exact bodyPost_ret (v := .agg #[.int .u8 (c0.toNat : Int), .int .u8 (c1.toNat : Int), .int .u8 (c2.toNat : Int), .int .u8 (c3.toNat : Int)]) (by simp [results, Try.results82, go_sem]) rfl ⟨rfl, ((Below.refl _ _).alloc (Nat.le_refl _) _).drew⟩

section
variable {w : World} {r g b d : Nat} {l : List UInt8} {x y : Led}
set_option maxRecDepth 100000 in
theorem rasGet_yes {X Y W H p i : Nat} {c0 c1 c2 c3 : UInt8} (h : RasAt w r g b (W : Int) (H : Int) true) (hm : BufAt w b g d l) (hX : X < W) (hY : Y < H) (hp : Y * W = p) (hi : 4 * (p + X) = i) (hp1 : p ≤ 1073741824) (hW : W ≤ 16384) (hH : H ≤ 16384) (hl : i + 4 ≤ l.length) (hs : l.length ≤ 1099511627776) (hq : (l.drop i).take 4 = [c0, c1, c2, c3]) :
    Calls Try.prog 45 #[.pointer (some ⟨r, 0, none⟩), .int .i64 (X : Int), .int .i64 (Y : Int)] w fun e w' => e = .returned (.tuple #[.agg #[.int .u8 (c0.toNat : Int), .int .u8 (c1.toNat : Int), .int .u8 (c2.toNat : Int), .int .u8 (c3.toNat : Int)], .bool true]) ∧ Below w.heap.size w w' := by
  have R0 : CB (w.alloc (.cells #[.int .u8 0, .int .u8 0, .int .u8 0, .int .u8 0] 39)) w.heap.size 0 0 0 0 := Blk.new _ _ _
  have B0 : Below w.heap.size w (w.alloc (.cells #[.int .u8 0, .int .u8 0, .int .u8 0, .int .u8 0] 39)) := (Below.refl _ _).alloc (Nat.le_refl _) _
  have h1 : RasAt (w.alloc (.cells #[.int .u8 0, .int .u8 0, .int .u8 0, .int .u8 0] 39)) r g b (W : Int) (H : Int) true := Blk.alloc h _
  have m1 : BufAt (w.alloc (.cells #[.int .u8 0, .int .u8 0, .int .u8 0, .int .u8 0] 39)) b g d l := ⟨hm.blk.alloc _, hm.row.alloc _⟩
  have HA := Lib.hid (rasAt_yes h1 hX hY hp hi hp1 hW hH)
  have HG := Lib.hid (bufGet_yes (i := i) (n := 4) m1 hl hs)
  have d3 : (w.alloc (.cells #[.int .u8 0, .int .u8 0, .int .u8 0, .int .u8 0] 39)).cell? ⟨r, 3, none⟩ = some (.pointer (some ⟨b, 0, none⟩)) := h1.b_
  obtain ⟨s, hsq⟩ : ∃ s, s = strOf ((l.drop i).take 4) := ⟨_, rfl⟩
  rw [← hsq] at HG
  have HC := Lib.hid (fun w => color_any (s := s) (c0 := c0) (c1 := c1) (c2 := c2) (c3 := c3) (by rw [hsq, hq]) w)
  have dl := Blk.lt h
  have c3' := h.b_
  clear h hm h1 m1 hp hi hq hsq
  go_enter Try.func45, Try.ntmps45
  go_wp2_with (first
    | (go_at_call 78; refine HA.out.mono ?_; rintro e w9 ⟨rfl, rfl⟩)
    | (go_at_call 81; refine HG.out.mono ?_; rintro e w9 ⟨rfl, rfl⟩)
    | (go_at_call 82; refine (HC.out _).mono ?_; rintro e w1 ⟨rfl, b1⟩; have R1 : CB w1 w.heap.size 0 0 0 0 := Blk.below R0 b1 (Blk.lt R0); have B1 := below_next B0 b1; have r0 := R1.c0; have r1 := R1.c1; have r2 := R1.c2; have r3 := R1.c3; have z0 := Blk.frozen R1 0; have z1 := Blk.frozen R1 1; have z2 := Blk.frozen R1 2; have z3 := Blk.frozen R1 3; have lr := Blk.lt R1))
  have fz : CB (st4 w1 w.heap.size (c0.toNat : Int) (c1.toNat : Int) (c2.toNat : Int) (c3.toNat : Int)) w.heap.size (c0.toNat : Int) (c1.toNat : Int) (c2.toNat : Int) (c3.toNat : Int) := R1.store
  have tz : Below w.heap.size w (st4 w1 w.heap.size (c0.toNat : Int) (c1.toNat : Int) (c2.toNat : Int) (c3.toNat : Int)) := Below.st4 B1 (Nat.le_refl _)
  change bodyPost _ _ _ _ _ (st4 w1 w.heap.size (c0.toNat : Int) (c1.toNat : Int) (c2.toNat : Int) (c3.toNat : Int))
  generalize (st4 w1 w.heap.size (c0.toNat : Int) (c1.toNat : Int) (c2.toNat : Int) (c3.toNat : Int)) = we at fz tz ⊢
  have q0 := fz.c0
  have q1 := fz.c1
  have q2 := fz.c2
  have q3 := fz.c3
  exact bodyPost_ret (v := .tuple #[.agg #[.int .u8 (c0.toNat : Int), .int .u8 (c1.toNat : Int), .int .u8 (c2.toNat : Int), .int .u8 (c3.toNat : Int)], .bool true]) (by simp [results, Try.results45, go_sem, q0, q1, q2, q3]) rfl ⟨rfl, tz⟩
end
end Go.Proofs.Ytfgcbhcfekonnaa
