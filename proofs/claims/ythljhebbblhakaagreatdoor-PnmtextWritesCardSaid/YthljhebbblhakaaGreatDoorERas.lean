/- raster.New. A raster's at, Set, swap, Get. A raster's Get and Set. A raster's Set. An image: is it right? An image's bytes; are two images one? A raster's refusals; Row, Image, Free, Width, Height. -/
import Derived.Test.YthljhebbblhakaaGreatDoorENum
import Derived.Test.YthljhebbblhakaaGreatDoorEBuf
import Derived.Test.YthljhebbblhakaaGreatDoorESync
namespace Go.Proofs.YthljhebbblhakaaGreatDoor
open Go.RowKit
set_option linter.unusedVariables false
set_option linter.unusedSimpArgs false

def rasC (g b : Nat) (W H : Int) (o : Bool) : Array Value := #[.pointer (some ⟨g, 0, none⟩), .int .i64 W, .int .i64 H, .pointer (some ⟨b, 0, none⟩), .bool o]
def RasAt (w : World) (r g b : Nat) (W H : Int) (o : Bool) : Prop := Blk w r 111 (rasC g b W H o)
section
variable {w : World} {r g b : Nat} {W H : Int} {o : Bool}
theorem RasAt.l (h : RasAt w r g b W H o) : w.cell? ⟨r, 0, none⟩ = some (.pointer (some ⟨g, 0, none⟩)) := Blk.cell h 0
theorem RasAt.w_ (h : RasAt w r g b W H o) : w.cell? ⟨r, 1, none⟩ = some (.int .i64 W) := Blk.cell h 1
theorem RasAt.h_ (h : RasAt w r g b W H o) : w.cell? ⟨r, 2, none⟩ = some (.int .i64 H) := Blk.cell h 2
theorem RasAt.b_ (h : RasAt w r g b W H o) : w.cell? ⟨r, 3, none⟩ = some (.pointer (some ⟨b, 0, none⟩)) := Blk.cell h 3
theorem RasAt.o_ (h : RasAt w r g b W H o) : w.cell? ⟨r, 4, none⟩ = some (.bool o) := Blk.cell h 4
end
theorem side_any (n : Int) (w : World) : Calls Tryz.prog 45 #[.int .i64 n] w fun e w' => e = .returned (.bool (decide (1 ≤ n ∧ n ≤ 16384))) ∧ w = w' := by
  by_cases h1 : 1 ≤ n
  · by_cases h2 : n ≤ 16384
    · rw [decide_eq_true (And.intro h1 h2)]
      go_enter Tryz.func45, Tryz.ntmps45
      go_wp2_with fail
      go_ret
      exact ⟨ret1 (vbool (by first | rfl | (simp; done) | (simp; omega))), rfl⟩
    · rw [decide_eq_false (by omega)]
      go_enter Tryz.func45, Tryz.ntmps45
      go_wp2_with fail
      go_ret
      exact ⟨ret1 (vbool (by first | rfl | (simp; done) | (simp; omega))), rfl⟩
  · rw [decide_eq_false (by omega)]
    go_enter Tryz.func45, Tryz.ntmps45
    go_wp2_with fail
    go_ret
    exact ⟨ret1 (vbool (by first | rfl | (simp; done) | (simp; omega))), rfl⟩
theorem sideIs {n : Int} {b : Bool} (h : decide (1 ≤ n ∧ n ≤ 16384) = b) (w : World) : Calls Tryz.prog 45 #[.int .i64 n] w fun e w' => e = .returned (.bool b) ∧ w = w' := by
  rw [← h]
  exact side_any n w

def sideHyp (W H : Int) : Prop := (1 ≤ W ∧ W ≤ 16384) ∧ (1 ≤ H ∧ H ≤ 16384)
theorem rasNew_sides {g : Nat} {W H : Int} {w : World} {x y : Led} (hs : sideHyp W H) (h : LedAt w g x) (ok : x.Ok) (e : x.sides W H = (y, false)) : Calls Tryz.prog 35 #[.pointer (some ⟨g, 0, none⟩), .int .i64 W, .int .i64 H] w fun e w' => e = .returned (.tuple #[.pointer none, .int .i64 4]) ∧ LedAt w' g y ∧ Turn [g] w w' := by
  have S1 := Lib.hid (fun w => sideIs (n := W) (b := true) (decide_eq_true hs.1) w)
  have S2 := Lib.hid (fun w => sideIs (n := H) (b := true) (decide_eq_true hs.2) w)
  have HL := Lib.hid h
  have HK := Lib.hid ok
  have HE := Lib.hid e
  clear h ok e hs
  go_enter Tryz.func35, Tryz.ntmps35
  go_wp2_with (first
    | (go_at_call 53; refine (sides_at HL.out HK.out HE.out).mono ?_; rintro e w1 ⟨rfl, l1, b1⟩)
    | (go_at_call 45; first | (have := k1; refine (S2.out _).mono ?_; rintro e w9 ⟨rfl, rfl⟩) | (refine (S1.out _).mono ?_; rintro e w9 ⟨rfl, rfl⟩; have k1 := trivial)))
  go_ret2
  exact ⟨rfl, l1, Turn.of_grown b1 (by simp)⟩
set_option maxRecDepth 100000 in
theorem rasNew_take {g W H y z : Nat} {w : World} {x x2 : Led} (hs : sideHyp W H) (hy : W * H = y) (hz : y * 4 = z) (hz1 : z ≤ 4294967296) (h : LedAt w g x) (ok : x.Ok) (e : x.sides W H = (x, true)) (e2 : x.take z = (x2, false)) : Calls Tryz.prog 35 #[.pointer (some ⟨g, 0, none⟩), .int .i64 (W : Int), .int .i64 (H : Int)] w fun e w' => e = .returned (.tuple #[.pointer none, .int .i64 4]) ∧ LedAt w' g x2 ∧ Turn [g] w w' := by
  have S1 := Lib.hid (fun w => sideIs (n := (W : Int)) (b := true) (decide_eq_true hs.1) w)
  have S2 := Lib.hid (fun w => sideIs (n := (H : Int)) (b := true) (decide_eq_true hs.2) w)
  have hW : W ≤ 4294967296 := by have := hs.1.2; omega
  have hH : H ≤ 4294967296 := by have := hs.2.2; omega
  have HP := Lib.hid (fun (w : World) (gg : Nat) c0 c1 c2 => numProduct_three (w := w) (g := gg) (a := W) (b := H) (y := y) (z := z) c0 c1 c2 hy hz hW hH hz1)
  have HL := Lib.hid h
  have HK := Lib.hid ok
  have HE := Lib.hid e
  have HE2 := Lib.hid e2
  clear h ok e e2 hs hy hz
  go_enter Tryz.func35, Tryz.ntmps35
  go_wp2_with (first
    | (go_at_call 53; refine (sides_at HL.out HK.out HE.out).mono ?_; rintro e w1 ⟨rfl, l1, b1⟩)
    | (go_at_call 45; first | (have := k1; refine (S2.out _).mono ?_; rintro e w9 ⟨rfl, rfl⟩) | (refine (S1.out _).mono ?_; rintro e w9 ⟨rfl, rfl⟩; have k1 := trivial))
    | (go_at_call 54; refine (HP.out _ _ (cell_new _ _ _ 0 _ rfl) (cell_new _ _ _ 1 _ rfl) (cell_new _ _ _ 2 _ rfl)).mono ?_; rintro e w2 ⟨rfl, b2⟩; have l2 := Blk.below (Blk.alloc l1 _) b2 (Blk.lt (Blk.alloc l1 _)))
    | (go_at_call 55; refine (bufMake_no l2 HK.out HE2.out (by omega)).mono ?_; rintro e w3 ⟨rfl, l3, t3⟩))
  go_ret2
  exact ⟨rfl, l3, (((Turn.of_grown b1 (by simp)).alloc _).trans (Turn.of_below b2)).trans t3⟩
set_option maxRecDepth 100000 in
theorem rasNew_yes {g W H y z : Nat} {w : World} {x x2 : Led} (hs : sideHyp W H) (hy : W * H = y) (hz : y * 4 = z) (hz1 : z ≤ 4294967296) (h : LedAt w g x) (ok : x.Ok) (e : x.sides W H = (x, true)) (e2 : x.take z = (x2, true)) : Calls Tryz.prog 35 #[.pointer (some ⟨g, 0, none⟩), .int .i64 (W : Int), .int .i64 (H : Int)] w fun e w' => ∃ r b d, e = .returned (.tuple #[.pointer (some ⟨r, 0, none⟩), .int .i64 0]) ∧ w.heap.size ≤ r ∧ w.heap.size ≤ b ∧ w.heap.size ≤ d ∧ RasAt w' r g b W H true ∧ BufAt w' b g d (List.replicate z 0) ∧ LedAt w' g x2 ∧ Turn [g] w w' := by
  have S1 := Lib.hid (fun w => sideIs (n := (W : Int)) (b := true) (decide_eq_true hs.1) w)
  have S2 := Lib.hid (fun w => sideIs (n := (H : Int)) (b := true) (decide_eq_true hs.2) w)
  have hW : W ≤ 4294967296 := by have := hs.1.2; omega
  have hH : H ≤ 4294967296 := by have := hs.2.2; omega
  have HP := Lib.hid (fun (w : World) (gg : Nat) c0 c1 c2 => numProduct_three (w := w) (g := gg) (a := W) (b := H) (y := y) (z := z) c0 c1 c2 hy hz hW hH hz1)
  have HL := Lib.hid h
  have HK := Lib.hid ok
  have HE := Lib.hid e
  have HE2 := Lib.hid e2
  clear h ok e e2 hs hy hz
  go_enter Tryz.func35, Tryz.ntmps35
  go_wp2_with (first
    | (go_at_call 53; refine (sides_at HL.out HK.out HE.out).mono ?_; rintro e w1 ⟨rfl, l1, b1⟩)
    | (go_at_call 45; first | (have := k1; refine (S2.out _).mono ?_; rintro e w9 ⟨rfl, rfl⟩) | (refine (S1.out _).mono ?_; rintro e w9 ⟨rfl, rfl⟩; have k1 := trivial))
    | (go_at_call 54; refine (HP.out _ _ (cell_new _ _ _ 0 _ rfl) (cell_new _ _ _ 1 _ rfl) (cell_new _ _ _ 2 _ rfl)).mono ?_; rintro e w2 ⟨rfl, b2⟩; have l2 := Blk.below (Blk.alloc l1 _) b2 (Blk.lt (Blk.alloc l1 _)))
    | (go_at_call 55; refine (bufMake_yes (n := z) l2 HK.out HE2.out (by omega)).mono ?_; rintro e w3 ⟨b, d, rfl, m3, l3, hb, hd, t3⟩))
  go_ret2
  have t2 : Turn [g] w w2 := ((Turn.of_grown b1 (by simp)).alloc _).trans (Turn.of_below b2)
  have s2 := t2.size
  have s3 := t3.size
  exact ⟨w3.heap.size, b, d, rfl, by omega, by omega, by omega, Blk.new _ _ _, ⟨m3.blk.alloc _, m3.row.alloc _⟩, Blk.alloc l3 _, (t2.trans t3).alloc _⟩
end Go.Proofs.YthljhebbblhakaaGreatDoor
namespace Go.Proofs.YthljhebbblhakaaGreatDoor
open Go.RowKit
set_option linter.unusedVariables false
set_option linter.unusedSimpArgs false

section
variable {w : World} {r g b d : Nat} {l : List UInt8} {x y : Led}
theorem rasAt_yes {X Y W H p i : Nat} (h : RasAt w r g b (W : Int) (H : Int) true) (hX : X < W) (hY : Y < H) (hp : Y * W = p) (hi : 4 * (p + X) = i) (hp1 : p ≤ 1073741824) (hW : W ≤ 16384) (hH : H ≤ 16384) :
    Calls Tryz.prog 81 #[.pointer (some ⟨r, 0, none⟩), .int .i64 (X : Int), .int .i64 (Y : Int)] w fun e w' => e = .returned (.tuple #[.int .i64 (i : Int), .bool true]) ∧ w = w' := by
  have c1 := h.w_
  have c2 := h.h_
  have c4 := h.o_
  have hwp : IntKind.i64.wrap ((Y : Int) * (W : Int)) = (p : Int) := by
    have e : (Y : Int) * (W : Int) = (p : Int) := by rw [← hp]; exact (Int.natCast_mul Y W).symm
    rw [e]
    exact IntWalk.i64_in _ (by omega)
  have x0 : ¬ (X : Int) < 0 := by omega
  have x1 : ¬ (W : Int) ≤ (X : Int) := by omega
  have y0 : ¬ (Y : Int) < 0 := by omega
  have y1 : ¬ (H : Int) ≤ (Y : Int) := by omega
  have HI := Lib.hid hi
  have hXb : X ≤ 16384 := by omega
  clear h hp hi
  go_enter Tryz.func81, Tryz.ntmps81
  go_wp2_with fail
  go_ret2
  exact ⟨by rw [← HI.out]; first | rfl | (congr 4; done) | (congr 4; omega), rfl⟩
theorem idx4 (p q r s : Value) : (∀ w, (Instr.index 144 (.agg #[p, q, r, s]) (.int .i64 0)).run Tryz.prog w = .ok p w) ∧ (∀ w, (Instr.index 144 (.agg #[p, q, r, s]) (.int .i64 1)).run Tryz.prog w = .ok q w) ∧ (∀ w, (Instr.index 144 (.agg #[p, q, r, s]) (.int .i64 2)).run Tryz.prog w = .ok r w) ∧ (∀ w, (Instr.index 144 (.agg #[p, q, r, s]) (.int .i64 3)).run Tryz.prog w = .ok s w) :=
  ⟨fun _ => by kernel_rfl, fun _ => by kernel_rfl, fun _ => by kernel_rfl, fun _ => by kernel_rfl⟩
end
end Go.Proofs.YthljhebbblhakaaGreatDoor
namespace Go.Proofs.YthljhebbblhakaaGreatDoor
open Go.RowKit
set_option linter.unusedVariables false
set_option linter.unusedSimpArgs false

def colC (a b c d : Int) : Array Value := #[.int .u8 a, .int .u8 b, .int .u8 c, .int .u8 d]
def CB (w : World) (n : Nat) (a b c d : Int) : Prop := Blk w n 48 (colC a b c d)
section
variable {w : World} {n : Nat} {a b c d : Int}
theorem CB.c0 (h : CB w n a b c d) : w.cell? ⟨n, 0, none⟩ = some (.int .u8 a) := Blk.cell h 0
theorem CB.c1 (h : CB w n a b c d) : w.cell? ⟨n, 1, none⟩ = some (.int .u8 b) := Blk.cell h 1
theorem CB.c2 (h : CB w n a b c d) : w.cell? ⟨n, 2, none⟩ = some (.int .u8 c) := Blk.cell h 2
theorem CB.c3 (h : CB w n a b c d) : w.cell? ⟨n, 3, none⟩ = some (.int .u8 d) := Blk.cell h 3
def st4 (w : World) (n : Nat) (a b c d : Int) : World := (((w.setCell ⟨n, 0, none⟩ (.int .u8 a)).setCell ⟨n, 1, none⟩ (.int .u8 b)).setCell ⟨n, 2, none⟩ (.int .u8 c)).setCell ⟨n, 3, none⟩ (.int .u8 d)
theorem CB.store {a' b' c' d' : Int} (h : CB w n a b c d) : CB (st4 w n a' b' c' d') n a' b' c' d' := ((((Blk.set_ h 0 _).set_ 1 _).set_ 2 _).set_ 3 _).eq_ (by simp [colC])
theorem Below.st4 {B : Nat} {a0 : World} (h : Below B a0 w) (hb : B ≤ n) : Below B a0 (st4 w n a b c d) := below_set (below_set (below_set (below_set h hb) hb) hb) hb
end
end Go.Proofs.YthljhebbblhakaaGreatDoor
namespace Go.Proofs.YthljhebbblhakaaGreatDoor
open Go.RowKit
set_option linter.unusedVariables false
set_option linter.unusedSimpArgs false

theorem over_snoc (l s : List UInt8) (i : Nat) (v : UInt8) (h : i + s.length < l.length) : (over l i s).set (i + s.length) v = over l i (s ++ [v]) := by
  unfold over
  have e : (l.take i ++ s).length = i + s.length := by simp; omega
  rw [List.set_append_right _ _ (by rw [e]; exact Nat.le_refl _), e, Nat.sub_self, List.drop_eq_getElem_cons h, List.set_cons_zero]
  simp [List.append_assoc]
  omega
section
variable {w : World} {r g b d : Nat} {l : List UInt8} {x y : Led}
set_option maxRecDepth 100000 in
set_option maxHeartbeats 1000000 in
theorem rasSet_yes {X Y W H p i : Nat} {c0 c1 c2 c3 : UInt8} (h : RasAt w r g b (W : Int) (H : Int) true) (hm : BufAt w b g d l) (hL : LedAt w g x) (ok : x.Ok) (he : x.work 1 = (y, true)) (hX : X < W) (hY : Y < H) (hp : Y * W = p) (hi : 4 * (p + X) = i) (hp1 : p ≤ 1073741824) (hW : W ≤ 16384) (hH : H ≤ 16384) (hl : i + 4 ≤ l.length) (hs : l.length ≤ 1099511627776) :
    Calls Tryz.prog 60 #[.pointer (some ⟨r, 0, none⟩), .int .i64 (X : Int), .int .i64 (Y : Int), .agg #[.int .u8 (c0.toNat : Int), .int .u8 (c1.toNat : Int), .int .u8 (c2.toNat : Int), .int .u8 (c3.toNat : Int)]] w fun e w' => e = .returned (.bool true) ∧ BufAt w' b g d (over l i [c0, c1, c2, c3]) ∧ LedAt w' g y ∧ Turn [g, d] w w' := by
  have hbg := hm.bg hL
  have hdg := hm.dg hL
  have hbd := hm.bd
  have hrg : r ≠ g := Blk.ne_ h hL (by decide)
  have hrd : r ≠ d := Blk.ne_ h hm.row (by decide)
  obtain ⟨wb, hwb⟩ : ∃ wb, wb = w.alloc (.cells #[.int .u8 (c0.toNat : Int), .int .u8 (c1.toNat : Int), .int .u8 (c2.toNat : Int), .int .u8 (c3.toNat : Int)] 48) := ⟨_, rfl⟩
  have h1 : RasAt wb r g b (W : Int) (H : Int) true := hwb ▸ Blk.alloc h _
  have m1 : BufAt wb b g d l := hwb ▸ ⟨hm.blk.alloc _, hm.row.alloc _⟩
  have l1 : LedAt wb g x := hwb ▸ Blk.alloc hL _
  have k1 : CB wb w.heap.size c0.toNat c1.toNat c2.toNat c3.toNat := hwb ▸ Blk.new _ _ _
  have t1 : Turn [g, d] w wb := hwb ▸ (Turn.refl _ _).alloc _
  have hgl := Blk.lt hL
  have HA := Lib.hid (rasAt_yes h1 hX hY hp hi hp1 hW hH)
  have HR := Lib.hid h1
  have HM := Lib.hid m1
  have HL := Lib.hid l1
  have HK := Lib.hid k1
  have HT := Lib.hid t1
  have HOK := Lib.hid ok
  have HE := Lib.hid he
  have HLL := Lib.hid hl
  have d0 := h1.l
  rw [hwb] at HA HR HM HL HK HT d0
  obtain ⟨i0, i1, i2, i3⟩ := idx4 (.int .u8 (c0.toNat : Int)) (.int .u8 (c1.toNat : Int)) (.int .u8 (c2.toNat : Int)) (.int .u8 (c3.toNat : Int))
  obtain ⟨j1, hj1⟩ : ∃ j, j = i + 1 := ⟨_, rfl⟩
  obtain ⟨j2, hj2⟩ : ∃ j, j = i + 2 := ⟨_, rfl⟩
  obtain ⟨j3, hj3⟩ : ∃ j, j = i + 3 := ⟨_, rfl⟩
  have e1 : (i : Int) + 1 = (j1 : Int) := by omega
  have e2 : (i : Int) + 2 = (j2 : Int) := by omega
  have e3 : (i : Int) + 3 = (j3 : Int) := by omega
  have hib : i ≤ 1099511627776 := by omega
  have HJ := Lib.hid (And.intro hj1 (And.intro hj2 hj3))
  have rl := Blk.lt h
  clear h hm hL ok he h1 m1 l1 k1 t1 hp hi hl hwb hj1 hj2 hj3
  go_enter Tryz.func60, Tryz.ntmps60
  go_wp2_with (first
    | (go_at_call 81; refine HA.out.mono ?_; rintro e w9 ⟨rfl, rfl⟩)
    | (go_at_call 82; refine (work_at HL.out HOK.out HE.out).mono ?_; rintro e w1 ⟨rfl, l2, b1⟩; have t2 : Turn [g] _ w1 := Turn.of_grown b1 (by simp); have R2 : RasAt w1 r g b (W : Int) (H : Int) true := Blk.turn HR.out t2 (by simpa using hrg); have M2 : BufAt w1 b g d l := HM.out.turn t2 (by simpa using hbg) (by simpa using hdg); have K2 : CB w1 w.heap.size c0.toNat c1.toNat c2.toNat c3.toNat := Blk.turn HK.out t2 (by simp; omega); have T2 : Turn [g, d] w w1 := HT.out.trans (t2.mono (by simp)); have k0 := K2.c0; have k1 := K2.c1; have k2 := K2.c2; have k3 := K2.c3))
  have HR2 := Lib.hid R2
  have HM2 := Lib.hid M2
  have HL2 := Lib.hid l2
  have HT2 := Lib.hid T2
  clear R2 M2 l2 T2 K2 t2 b1 k0 k1 k2 k3
  go_loopg [39] 4 (fun k iv wr => ∃ s : List UInt8, BufAt wr b g d (over l i s) ∧ RasAt wr r g b (W : Int) (H : Int) true ∧ LedAt wr g y ∧ Turn [g, d] w wr ∧ ((k = 4 ∧ iv = .int .i64 0 ∧ s = []) ∨ (k = 3 ∧ iv = .int .i64 1 ∧ s = [c0]) ∨ (k = 2 ∧ iv = .int .i64 2 ∧ s = [c0, c1]) ∨ (k = 1 ∧ iv = .int .i64 3 ∧ s = [c0, c1, c2]) ∨ (k = 0 ∧ iv = .int .i64 4 ∧ s = [c0, c1, c2, c3])))
  case atStart => exact ⟨[], by rw [over_nil]; exact HM2.out, HR2.out, HL2.out, HT2.out, .inl ⟨rfl, rfl, rfl⟩⟩
  case round =>
    obtain ⟨s, mb, rb, lb, tb, hor⟩ := hrel
    have f3 := rb.b_
    have HMb := Lib.hid mb
    have HRb := Lib.hid rb
    have HLb := Lib.hid lb
    have HTb := Lib.hid tb
    clear mb rb lb tb HR2 HM2 HL2 HT2 d0
    have next : ∀ (w2 : World) (j : Nat) (v : UInt8), j = i + s.length → j < l.length → BufAt w2 b g d ((over l i s).set j v) → Turn [d] wr w2 → BufAt w2 b g d (over l i (s ++ [v])) ∧ RasAt w2 r g b (W : Int) (H : Int) true ∧ LedAt w2 g y ∧ Turn [g, d] w w2 := by
      intro w2 j v hjj hj hb ht
      subst hjj
      rw [over_snoc _ _ _ _ hj] at hb
      exact ⟨hb, Blk.turn HRb.out ht (by simpa using hrd), LedAt.turn HLb.out ht (by simpa using hdg.symm), HTb.out.trans (ht.mono (by simp))⟩
    have HN := Lib.hid next
    clear next
    have hll : ∀ t : List UInt8, t.length ≤ 4 → (over l i t).length = l.length := fun t ht => over_len _ _ _ (by have := HLL.out; omega)
    have HLN := Lib.hid hll
    clear hll
    obtain ⟨rfl, rfl, rfl⟩ | ⟨rfl, rfl, rfl⟩ | ⟨rfl, rfl, rfl⟩ | ⟨rfl, rfl, rfl⟩ | ⟨rfl, rfl, rfl⟩ := hor
    · go_wp2_with (go_at_call 83; refine (bufSet_yes (i := i) c0 HMb.out (by rw [HLN.out _ (by simp)]; have := HLL.out; omega) (by rw [HLN.out _ (by simp)]; exact hs)).mono ?_; rintro e w2 ⟨rfl, m2, t2⟩)
      go_roundg 3
      case measure => decide
      case rel =>
        obtain ⟨q1, q2, q3, q4⟩ := HN.out _ _ _ (by simp) (by have := HLL.out; omega) m2 t2
        exact ⟨_, q1, q2, q3, q4, .inr (.inl ⟨rfl, rfl, rfl⟩)⟩
    · go_wp2_with (go_at_call 83; refine (bufSet_yes (i := j1) c1 HMb.out (by rw [HLN.out _ (by simp)]; have := HLL.out; omega) (by rw [HLN.out _ (by simp)]; exact hs)).mono ?_; rintro e w2 ⟨rfl, m2, t2⟩)
      go_roundg 2
      case measure => decide
      case rel =>
        obtain ⟨q1, q2, q3, q4⟩ := HN.out _ _ _ (by rw [HJ.out.1]; simp) (by have := HLL.out; omega) m2 t2
        exact ⟨_, q1, q2, q3, q4, .inr (.inr (.inl ⟨rfl, rfl, rfl⟩))⟩
    · go_wp2_with (go_at_call 83; refine (bufSet_yes (i := j2) c2 HMb.out (by rw [HLN.out _ (by simp)]; have := HLL.out; omega) (by rw [HLN.out _ (by simp)]; exact hs)).mono ?_; rintro e w2 ⟨rfl, m2, t2⟩)
      go_roundg 1
      case measure => decide
      case rel =>
        obtain ⟨q1, q2, q3, q4⟩ := HN.out _ _ _ (by rw [HJ.out.2.1]; simp) (by have := HLL.out; omega) m2 t2
        exact ⟨_, q1, q2, q3, q4, .inr (.inr (.inr (.inl ⟨rfl, rfl, rfl⟩)))⟩
    · go_wp2_with (go_at_call 83; refine (bufSet_yes (i := j3) c3 HMb.out (by rw [HLN.out _ (by simp)]; have := HLL.out; omega) (by rw [HLN.out _ (by simp)]; exact hs)).mono ?_; rintro e w2 ⟨rfl, m2, t2⟩)
      go_roundg 0
      case measure => decide
      case rel =>
        obtain ⟨q1, q2, q3, q4⟩ := HN.out _ _ _ (by rw [HJ.out.2.2]; simp) (by have := HLL.out; omega) m2 t2
        exact ⟨_, q1, q2, q3, q4, .inr (.inr (.inr (.inr ⟨rfl, rfl, rfl⟩)))⟩
    · go_wp2_with fail
      go_ret
      exact ⟨rfl, HMb.out, HLb.out, HTb.out⟩
end
end Go.Proofs.YthljhebbblhakaaGreatDoor
namespace Go.Proofs.YthljhebbblhakaaGreatDoor
open Go.RowKit
set_option linter.unusedVariables false
set_option linter.unusedSimpArgs false

def RightP (W H : Int) (n : Nat) : Prop := (1 ≤ W ∧ W ≤ 16384) ∧ (1 ≤ H ∧ H ≤ 16384) ∧ (n : Int) = 4 * W * H
instance (W H : Int) (n : Nat) : Decidable (RightP W H n) := by unfold RightP; infer_instance
theorem img_prod64 {W H : Int} (hW : 1 ≤ W ∧ W ≤ 16384) (hH : 1 ≤ H ∧ H ≤ 16384) : wrap64 (4 * W * H) = 4 * W * H := by
  obtain ⟨a, rfl⟩ := Int.eq_ofNat_of_zero_le (show 0 ≤ W by omega)
  obtain ⟨b, rfl⟩ := Int.eq_ofNat_of_zero_le (show 0 ≤ H by omega)
  have h : a * b ≤ 16384 * 16384 := Nat.mul_le_mul (by omega) (by omega)
  have e : 4 * (a : Int) * (b : Int) = 4 * ((a * b : Nat) : Int) := by rw [Int.mul_assoc, Int.natCast_mul]
  rw [e]
  unfold wrap64
  omega
theorem img_four {W : Int} (hW : 1 ≤ W ∧ W ≤ 16384) : wrap64 (4 * W) = 4 * W := by unfold wrap64; omega
set_option maxRecDepth 100000 in
theorem right_any (W H : Int) (a : Option Addr) (n c : Nat) (w : World) : Calls Tryz.prog 24 #[.agg #[.int .i64 W, .int .i64 H, .slice a n c]] w fun e w' => e = .returned (.bool (decide (RightP W H n))) ∧ Below w.heap.size w w' := by
  by_cases hW : 1 ≤ W ∧ W ≤ 16384
  · have S1 := Lib.hid (fun w => sideIs (n := W) (b := true) (decide_eq_true hW) w)
    by_cases hH : 1 ≤ H ∧ H ≤ 16384
    · have S2 := Lib.hid (fun w => sideIs (n := H) (b := true) (decide_eq_true hH) w)
      have HW1 := Lib.hid (img_four hW)
      have HW2 := Lib.hid (img_prod64 hW hH)
      obtain ⟨z, hz⟩ : ∃ z, z = 4 * W * H := ⟨_, rfl⟩
      have hd : decide (RightP W H n) = decide ((n : Int) = z) := by unfold RightP; rw [hz]; simp [hW, hH]
      rw [hd]
      by_cases hn : (n : Int) = z
      · rw [decide_eq_true hn]
        have HN := Lib.hid hn
        have HZ := Lib.hid hz
        have hnb : ((n : Int) == z) = true := by simpa using hn
        clear hz hd hW hH hn
        go_enter Tryz.func24, Tryz.ntmps24
        go_wp2_with (go_at_call 45; first | (have := k1; refine (S2.out _).mono ?_; rintro e w9 ⟨rfl, rfl⟩) | (refine (S1.out _).mono ?_; rintro e w9 ⟨rfl, rfl⟩; have k1 := trivial))
        go_ret
        exact ⟨ret1 (vbool (by first | rfl | (simp; done) | (simp [HW1.out, HW2.out]; rw [← HZ.out]; exact HN.out) | (simpa [HW1.out, HW2.out, HZ.out] using HN.out))), (Below.refl _ _).alloc (Nat.le_refl _) _⟩
      · rw [decide_eq_false hn]
        have HN := Lib.hid hn
        have HZ := Lib.hid hz
        have hnb : ((n : Int) == z) = false := by simpa using hn
        clear hz hd hW hH hn
        go_enter Tryz.func24, Tryz.ntmps24
        go_wp2_with (go_at_call 45; first | (have := k1; refine (S2.out _).mono ?_; rintro e w9 ⟨rfl, rfl⟩) | (refine (S1.out _).mono ?_; rintro e w9 ⟨rfl, rfl⟩; have k1 := trivial))
        go_ret
        exact ⟨ret1 (vbool (by first | rfl | (simp; done) | (simp [HW1.out, HW2.out]; rw [← HZ.out]; exact HN.out) | (simpa [HW1.out, HW2.out, HZ.out] using HN.out))), (Below.refl _ _).alloc (Nat.le_refl _) _⟩
    · have S2 := Lib.hid (fun w => sideIs (n := H) (b := false) (decide_eq_false hH) w)
      rw [decide_eq_false (fun q : RightP W H n => hH q.2.1)]
      clear hW hH
      go_enter Tryz.func24, Tryz.ntmps24
      go_wp2_with (go_at_call 45; first | (have := k1; refine (S2.out _).mono ?_; rintro e w9 ⟨rfl, rfl⟩) | (refine (S1.out _).mono ?_; rintro e w9 ⟨rfl, rfl⟩; have k1 := trivial))
      go_ret
      exact ⟨rfl, (Below.refl _ _).alloc (Nat.le_refl _) _⟩
  · have S1 := Lib.hid (fun w => sideIs (n := W) (b := false) (decide_eq_false hW) w)
    rw [decide_eq_false (fun q : RightP W H n => hW q.1)]
    clear hW
    go_enter Tryz.func24, Tryz.ntmps24
    go_wp2_with (go_at_call 45; refine (S1.out _).mono ?_; rintro e w9 ⟨rfl, rfl⟩)
    go_ret
    exact ⟨rfl, (Below.refl _ _).alloc (Nat.le_refl _) _⟩
set_option maxRecDepth 100000 in
theorem refRight_any (W H : Int) (a : Option Addr) (n c : Nat) (w : World) : Calls Tryz.prog 8 #[.agg #[.int .i64 W, .int .i64 H, .slice a n c]] w fun e w' => e = .returned (.bool (decide (RightP W H n))) ∧ Below w.heap.size w w' := by
  by_cases w1 : W < 1
  · rw [decide_eq_false (fun q : RightP W H n => by have := q.1.1; omega)]
    go_enter Tryz.func8, Tryz.ntmps8
    go_wp2_with fail
    go_ret
    exact ⟨rfl, (Below.refl _ _).alloc (Nat.le_refl _) _⟩
  by_cases w2 : 16384 < W
  · rw [decide_eq_false (fun q : RightP W H n => by have := q.1.2; omega)]
    go_enter Tryz.func8, Tryz.ntmps8
    go_wp2_with fail
    go_ret
    exact ⟨rfl, (Below.refl _ _).alloc (Nat.le_refl _) _⟩
  by_cases h1 : H < 1
  · rw [decide_eq_false (fun q : RightP W H n => by have := q.2.1.1; omega)]
    go_enter Tryz.func8, Tryz.ntmps8
    go_wp2_with fail
    go_ret
    exact ⟨rfl, (Below.refl _ _).alloc (Nat.le_refl _) _⟩
  by_cases h2 : 16384 < H
  · rw [decide_eq_false (fun q : RightP W H n => by have := q.2.1.2; omega)]
    go_enter Tryz.func8, Tryz.ntmps8
    go_wp2_with fail
    go_ret
    exact ⟨rfl, (Below.refl _ _).alloc (Nat.le_refl _) _⟩
  have hW : 1 ≤ W ∧ W ≤ 16384 := by omega
  have hH : 1 ≤ H ∧ H ≤ 16384 := by omega
  have HW1 := Lib.hid (img_four hW)
  have HW2 := Lib.hid (img_prod64 hW hH)
  obtain ⟨z, hz⟩ : ∃ z, z = 4 * W * H := ⟨_, rfl⟩
  have hd : decide (RightP W H n) = decide ((n : Int) = z) := by unfold RightP; rw [hz]; simp [hW, hH]
  rw [hd]
  by_cases hn : (n : Int) = z
  · rw [decide_eq_true hn]
    have HN := Lib.hid hn
    have HZ := Lib.hid hz
    have hnb : ((n : Int) == z) = true := by simpa using hn
    clear hz hd hW hH hn
    go_enter Tryz.func8, Tryz.ntmps8
    go_wp2_with fail
    go_ret
    exact ⟨ret1 (vbool (by first | rfl | (simp; done) | (simp [HW1.out, HW2.out]; rw [← HZ.out]; exact HN.out) | (simpa [HW1.out, HW2.out, HZ.out] using HN.out))), (Below.refl _ _).alloc (Nat.le_refl _) _⟩
  · rw [decide_eq_false hn]
    have HN := Lib.hid hn
    have HZ := Lib.hid hz
    have hnb : ((n : Int) == z) = false := by simpa using hn
    clear hz hd hW hH hn
    go_enter Tryz.func8, Tryz.ntmps8
    go_wp2_with fail
    go_ret
    exact ⟨ret1 (vbool (by first | rfl | (simp; done) | (simp [HW1.out, HW2.out]; rw [← HZ.out]; exact HN.out) | (simpa [HW1.out, HW2.out, HZ.out] using HN.out))), (Below.refl _ _).alloc (Nat.le_refl _) _⟩
end Go.Proofs.YthljhebbblhakaaGreatDoor
namespace Go.Proofs.YthljhebbblhakaaGreatDoor
open Go.RowKit
set_option linter.unusedVariables false
set_option linter.unusedSimpArgs false

/-- the bytes that a slice reads -/
def BytesAt (w : World) (a : Option Addr) (n : Nat) (l : List UInt8) : Prop :=
  n = l.length ∧ (n = 0 ∨ ∃ b off, a = some ⟨b, off, none⟩ ∧ ∀ j (hj : j < l.length), w.cell? ⟨b, off + j, none⟩ = some (.int .u8 (l[j].toNat : Int)))
theorem addrAdd (b off j : Nat) : (⟨b, off, none⟩ : Addr).add j = ⟨b, off + j, none⟩ := by
  unfold Addr.add
  split
  · rename_i h; subst h; rfl
  · rfl
theorem bytesText {w : World} {a : Option Addr} {n : Nat} {l : List UInt8} (h : BytesAt w a n l) (c : Nat) : (convert 22 9 (.slice a n c)).run Tryz.prog w = .ok (.string (strOf l)) w := by
  obtain ⟨rfl, h0 | ⟨b, off, rfl, hc⟩⟩ := h
  · obtain rfl : l = [] := List.eq_nil_of_length_eq_zero h0
    cases a with
    | none => exact (show (convert 22 9 (.slice none 0 c)).run Tryz.prog w = .ok (.string (strOf [])) w by kernel_rfl)
    | some ad => exact run_convert_bytes_back (P := Tryz.prog) w 22 9 5 ad c [] Tryz.underlying22 Tryz.underlying5 Tryz.underlying9 (fun j hj => absurd hj (by simp))
  · exact run_convert_bytes_back (P := Tryz.prog) w 22 9 5 ⟨b, off, none⟩ c l Tryz.underlying22 Tryz.underlying5 Tryz.underlying9 (fun j hj => by rw [addrAdd]; exact hc j hj)
theorem BytesAt.below {w w' : World} {a : Option Addr} {n : Nat} {l : List UInt8} (h : BytesAt w a n l) (hb : Below w.heap.size w w') : BytesAt w' a n l := by
  obtain ⟨h1, h0 | ⟨b, off, rfl, hc⟩⟩ := h
  · exact ⟨h1, .inl h0⟩
  · exact ⟨h1, .inr ⟨b, off, rfl, fun j hj => (hb.cell (p := ⟨b, off + j, none⟩) (World.block_lt_of_cell? w _ (hc j hj))).trans (hc j hj)⟩⟩
theorem BytesAt.alloc {w : World} {a : Option Addr} {n : Nat} {l : List UInt8} (h : BytesAt w a n l) (ob : Obj) : BytesAt (w.alloc ob) a n l := h.below ((Below.refl _ _).alloc (Nat.le_refl _) _)
theorem strOf_eq_iff {l m : List UInt8} : strOf l = strOf m ↔ l = m := ⟨strOf_inj, fun h => by rw [h]⟩
theorem textInj {s t : ByteArray} (e : s.toList = t.toList) : s = t := by
  rw [ByteArray.toList_eq, ByteArray.toList_eq] at e
  rw [← strOf_of s, ← strOf_of t, e]
theorem textEq (s t : ByteArray) : (s.toList == t.toList) = decide (s = t) := by
  by_cases q : s = t
  · subst q; simp
  · rw [decide_eq_false q]
    exact beq_eq_false_iff_ne.2 fun e => q (textInj e)
/-- are two images one? -/
def SameP (W H W2 H2 : Int) (l m : List UInt8) : Prop := W = W2 ∧ H = H2 ∧ l = m
instance (W H W2 H2 : Int) (l m : List UInt8) : Decidable (SameP W H W2 H2 l m) := by unfold SameP; infer_instance
theorem refSame7_any {w : World} {W H W2 H2 : Int} {a a' : Option Addr} {n n' c c' : Nat} {l m : List UInt8} (h1 : BytesAt w a n l) (h2 : BytesAt w a' n' m) :
    Calls Tryz.prog 12 #[.agg #[.int .i64 W, .int .i64 H, .slice a n c], .agg #[.int .i64 W2, .int .i64 H2, .slice a' n' c']] w fun e w' => e = .returned (.bool (decide (SameP W H W2 H2 l m))) ∧ Below w.heap.size w w' := by
  by_cases hW : W = W2
  · subst hW
    by_cases hH : H = H2
    · subst hH
      obtain ⟨s1, hs1⟩ : ∃ s, s = strOf l := ⟨_, rfl⟩
      obtain ⟨s2, hs2⟩ : ∃ s, s = strOf m := ⟨_, rfl⟩
      rw [show decide (SameP W H W H l m) = decide (s1 = s2) by unfold SameP; rw [hs1, hs2]; simp [strOf_eq_iff]]
      have e1 := bytesText ((h1.alloc (.cells #[.int .i64 W, .int .i64 H, .slice a n c] 24)).alloc (.cells #[.int .i64 W, .int .i64 H, .slice a' n' c'] 24)) c
      have e2 := bytesText ((h2.alloc (.cells #[.int .i64 W, .int .i64 H, .slice a n c] 24)).alloc (.cells #[.int .i64 W, .int .i64 H, .slice a' n' c'] 24)) c'
      rw [← hs1] at e1
      rw [← hs2] at e2
      clear h1 h2 hs1 hs2
      go_enter Tryz.func12, Tryz.ntmps12
      go_wp2_with fail
      go_ret
      exact ⟨ret1 (vbool (textEq s1 s2)), ((Below.refl _ _).alloc (Nat.le_refl _) _).alloc (by simp) _⟩
    · rw [decide_eq_false (fun q : SameP W H W H2 l m => hH q.2.1)]
      have hb : (H == H2) = false := beq_eq_false_iff_ne.2 hH
      clear h1 h2
      go_enter Tryz.func12, Tryz.ntmps12
      go_wp2_with fail
      go_ret
      exact ⟨rfl, ((Below.refl _ _).alloc (Nat.le_refl _) _).alloc (by simp) _⟩
  · rw [decide_eq_false (fun q : SameP W H W2 H2 l m => hW q.1)]
    have hb : (W == W2) = false := beq_eq_false_iff_ne.2 hW
    clear h1 h2
    go_enter Tryz.func12, Tryz.ntmps12
    go_wp2_with fail
    go_ret
    exact ⟨rfl, ((Below.refl _ _).alloc (Nat.le_refl _) _).alloc (by simp) _⟩
end Go.Proofs.YthljhebbblhakaaGreatDoor
namespace Go.Proofs.YthljhebbblhakaaGreatDoor
open Go.RowKit
set_option linter.unusedVariables false
set_option linter.unusedSimpArgs false

section
variable {w : World} {r g b d : Nat} {l : List UInt8} {x y : Led}
theorem RasAt.shut {W H : Int} {o : Bool} (h : RasAt w r g b W H o) : RasAt (w.setCell ⟨r, 4, none⟩ (.bool false)) r g b W H false := (Blk.set_ h 4 _).eq_ rfl
set_option maxRecDepth 100000 in
set_option maxHeartbeats 1000000 in
theorem rasImage_yes {W H : Int} (h : RasAt w r g b W H true) (hm : BufAt w b g d l) : Calls Tryz.prog 37 #[.pointer (some ⟨r, 0, none⟩)] w fun e w' => e = .returned (.tuple #[.agg #[.int .i64 W, .int .i64 H, .slice (some ⟨d, 0, none⟩) l.length l.length], .bool true]) ∧ RasAt w' r g b W H false ∧ BufOff w' b g ∧ Blk w' d 5 (C8 l).toArray ∧ Turn [r, b] w w' := by
  have hrb : r ≠ b := Blk.ne_ h hm.blk (by decide)
  have hrd : r ≠ d := Blk.ne_ h hm.row (by decide)
  have hbd := hm.bd
  obtain ⟨wA, hwA⟩ : ∃ wA, wA = w.alloc (.cells #[.int .i64 0, .int .i64 0, .slice none 0 0] 24) := ⟨_, rfl⟩
  have h1 : RasAt wA r g b W H true := hwA ▸ Blk.alloc h _
  have m1 : BufAt wA b g d l := hwA ▸ ⟨hm.blk.alloc _, hm.row.alloc _⟩
  have t1 : Turn [r, b] w wA := hwA ▸ (Turn.refl _ _).alloc _
  have I1 : Blk wA w.heap.size 24 #[.int .i64 0, .int .i64 0, .slice none 0 0] := hwA ▸ Blk.new _ _ _
  have hri : r ≠ w.heap.size := Nat.ne_of_lt (Blk.lt h)
  have hbi : b ≠ w.heap.size := Nat.ne_of_lt (Blk.lt hm.blk)
  have hdi : d ≠ w.heap.size := Nat.ne_of_lt (Blk.lt hm.row)
  have m2 : BufAt (wA.setCell ⟨r, 4, none⟩ (.bool false)) b g d l := ⟨Blk.far m1.blk (p := ⟨r, 4, none⟩) hrb.symm _, Blk.far m1.row (p := ⟨r, 4, none⟩) hrd.symm _⟩
  have I2 : Blk (wA.setCell ⟨r, 4, none⟩ (.bool false)) w.heap.size 24 #[.int .i64 0, .int .i64 0, .slice none 0 0] := Blk.far I1 (p := ⟨r, 4, none⟩) hri.symm _
  have HO := Lib.hid (bufOut_first m2)
  have HP := Lib.hid h1.shut
  have HT := Lib.hid (t1.set_ (g := r) 4 (.bool false) (.inl (by simp)))
  have HI := Lib.hid I2
  have HD := Lib.hid m2.row
  have c3 := h1.b_
  have c4 := h1.o_
  have z4 := Blk.frozen h1 4
  clear h hm h1 m1 t1 I1 m2 I2
  subst hwA
  go_enter Tryz.func37, Tryz.ntmps37
  go_wp2_with (go_at_call 61; refine HO.out.mono ?_; rintro e w2 ⟨rfl, o2, t2⟩; have R2 : RasAt w2 r g b W H false := Blk.turn HP.out t2 (not_mem_one hrb); have J2 := Blk.turn HI.out t2 (not_mem_one hbi.symm); have D2 := Blk.turn HD.out t2 (not_mem_one hbd.symm); have k1 := R2.w_; have k2 := R2.h_; have j0 : w2.cell? ⟨w.heap.size, 0, none⟩ = some (.int .i64 0) := Blk.cell J2 0; have j1 : w2.cell? ⟨w.heap.size, 1, none⟩ = some (.int .i64 0) := Blk.cell J2 1; have j2 : w2.cell? ⟨w.heap.size, 2, none⟩ = some (.slice none 0 0) := Blk.cell J2 2; have jz0 := Blk.frozen J2 0; have jz1 := Blk.frozen J2 1; have jz2 := Blk.frozen J2 2; have jl := Blk.lt J2)
  go_region
  all_goals go_wp2_with fail
  have J9 : Blk (((w2.setCell ⟨w.heap.size, 0, none⟩ (.int .i64 W)).setCell ⟨w.heap.size, 1, none⟩ (.int .i64 H)).setCell ⟨w.heap.size, 2, none⟩ (.slice (some ⟨d, 0, none⟩) l.length l.length)).drew w.heap.size 24 #[.int .i64 W, .int .i64 H, .slice (some ⟨d, 0, none⟩) l.length l.length] := Blk.drew (((Blk.set_ J2 0 _).set_ 1 _).set_ 2 _)
  have R9 : RasAt (((w2.setCell ⟨w.heap.size, 0, none⟩ (.int .i64 W)).setCell ⟨w.heap.size, 1, none⟩ (.int .i64 H)).setCell ⟨w.heap.size, 2, none⟩ (.slice (some ⟨d, 0, none⟩) l.length l.length)).drew r g b W H false := Blk.drew (Blk.far (Blk.far (Blk.far R2 (p := ⟨w.heap.size, 0, none⟩) hri _) (p := ⟨w.heap.size, 1, none⟩) hri _) (p := ⟨w.heap.size, 2, none⟩) hri _)
  have O9 : BufOff (((w2.setCell ⟨w.heap.size, 0, none⟩ (.int .i64 W)).setCell ⟨w.heap.size, 1, none⟩ (.int .i64 H)).setCell ⟨w.heap.size, 2, none⟩ (.slice (some ⟨d, 0, none⟩) l.length l.length)).drew b g := Blk.drew (Blk.far (Blk.far (Blk.far o2 (p := ⟨w.heap.size, 0, none⟩) hbi _) (p := ⟨w.heap.size, 1, none⟩) hbi _) (p := ⟨w.heap.size, 2, none⟩) hbi _)
  have D9 : Blk (((w2.setCell ⟨w.heap.size, 0, none⟩ (.int .i64 W)).setCell ⟨w.heap.size, 1, none⟩ (.int .i64 H)).setCell ⟨w.heap.size, 2, none⟩ (.slice (some ⟨d, 0, none⟩) l.length l.length)).drew d 5 (C8 l).toArray := Blk.drew (Blk.far (Blk.far (Blk.far D2 (p := ⟨w.heap.size, 0, none⟩) hdi _) (p := ⟨w.heap.size, 1, none⟩) hdi _) (p := ⟨w.heap.size, 2, none⟩) hdi _)
  have T9 : Turn [r, b] w (((w2.setCell ⟨w.heap.size, 0, none⟩ (.int .i64 W)).setCell ⟨w.heap.size, 1, none⟩ (.int .i64 H)).setCell ⟨w.heap.size, 2, none⟩ (.slice (some ⟨d, 0, none⟩) l.length l.length)).drew := ((((HT.out.trans (t2.mono (by simp))).set_ (g := w.heap.size) 0 _ (.inr (Nat.le_refl _))).set_ (g := w.heap.size) 1 _ (.inr (Nat.le_refl _))).set_ (g := w.heap.size) 2 _ (.inr (Nat.le_refl _))).drew
  change bodyPost _ _ _ _ _ (((w2.setCell ⟨w.heap.size, 0, none⟩ (.int .i64 W)).setCell ⟨w.heap.size, 1, none⟩ (.int .i64 H)).setCell ⟨w.heap.size, 2, none⟩ (.slice (some ⟨d, 0, none⟩) l.length l.length)).drew
  generalize (((w2.setCell ⟨w.heap.size, 0, none⟩ (.int .i64 W)).setCell ⟨w.heap.size, 1, none⟩ (.int .i64 H)).setCell ⟨w.heap.size, 2, none⟩ (.slice (some ⟨d, 0, none⟩) l.length l.length)).drew = we at J9 R9 O9 D9 T9 ⊢
  have q0 : we.cell? ⟨w.heap.size, 0, none⟩ = some (.int .i64 W) := Blk.cell J9 0
  have q1 : we.cell? ⟨w.heap.size, 1, none⟩ = some (.int .i64 H) := Blk.cell J9 1
  have q2 : we.cell? ⟨w.heap.size, 2, none⟩ = some (.slice (some ⟨d, 0, none⟩) l.length l.length) := Blk.cell J9 2
  exact bodyPost_ret (v := .tuple #[.agg #[.int .i64 W, .int .i64 H, .slice (some ⟨d, 0, none⟩) l.length l.length], .bool true]) (by simp [results, Tryz.results37, go_sem, q0, q1, q2]) rfl ⟨rfl, R9, O9, D9, T9⟩
end
end Go.Proofs.YthljhebbblhakaaGreatDoor
