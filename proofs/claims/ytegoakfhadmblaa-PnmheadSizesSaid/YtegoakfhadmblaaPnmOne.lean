/- token.One at any place of a text. -/
import Derived.Test.YtegoakfhadmblaaPnmStage
namespace Go.Proofs.Ytegoakfhadmblaa
open Go.RowKit
set_option linter.unusedVariables false
set_option linter.unusedSimpArgs false

set_option maxRecDepth 100000 in
set_option maxHeartbeats 1000000 in
theorem one_end {p g : Nat} {s : ByteArray} {x : Led} {a k : Nat} (ha : a ≤ s.size) (hsm : s.size ≤ 1099511627776) (hx : x.reason = 0) (ok : x.Ok) (hs : x.steps + k + 1 ≤ x.S) (hq : a = s.size) (hz : ¬ a < s.size) : OneBad p g s x a k 1 s.size := by
  intro w h hl
  have hpl := Blk.lt h
  have hgl := Blk.lt hl
  have hpg := h.ne hl
  have S1 : SrcAt (w.alloc (.cells #[.int .i64 0, .int .i64 0, .int .i64 0] 34)) p g s 0 s.size a := Blk.alloc h _
  have L1 : LedAt (w.alloc (.cells #[.int .i64 0, .int .i64 0, .int .i64 0] 34)) g (x.used k) := Blk.alloc hl _
  have F1 : FL (w.alloc (.cells #[.int .i64 0, .int .i64 0, .int .i64 0] 34)) w.heap.size 0 0 0 := Blk.new _ _ _
  have T1 : Turn [p, g] w (w.alloc (.cells #[.int .i64 0, .int .i64 0, .int .i64 0] 34)) := (Turn.refl _ _).alloc _
  have HO : Hid (SrcOk s 0 s.size a) := Lib.hid ⟨Nat.zero_le _, ha, Nat.le_refl _, hsm⟩
  have HS1 := Lib.hid S1
  have HL1 := Lib.hid L1
  have HK := Lib.hid (Led.used_ok (k := k) ok (by omega))
  have HW := Lib.hid (Led.used_yes (k := k) hx (by omega))
  have HX1 := Lib.hid (show (x.used (k + 1)).reason = 0 from hx)
  clear h hl S1 L1 hx ok hs
  go_enter Try.func64, Try.ntmps64
  go_wp2_with (first
    | (go_at_call 18; refine (srcAt_at HS1.out).mono ?_; rintro e w9 ⟨rfl, rfl⟩)
    | (go_at_call 104; refine (srcU8_short HS1.out HO.out HL1.out HK.out HW.out hz).mono ?_; rintro e w1 ⟨rfl, s1, l1, t01⟩; have t1 := T1.trans t01; have f1 : FL w1 w.heap.size 0 0 0 := FL.turn F1 t01 (not_two (by omega) (by omega)); have c0 := FL.c0 f1; have c1 := FL.c1 f1; have c2 := FL.c2 f1; have z0 := Blk.frozen f1 0; have z1 := Blk.frozen f1 1; have z2 := Blk.frozen f1 2; have b3 := Blk.lt f1)
    | (go_at_call 105; refine (srcFault_short 3 s1 l1 HX1.out).mono ?_; rintro e w4 ⟨rfl, b4⟩; have t04 : Turn [p, g] _ w4 := Turn.of_below b4; have t4 := t1.trans t04; have s4 := Blk.below s1 b4 (Blk.lt s1); have f4 : FL w4 w.heap.size 0 0 0 := Blk.below f1 b4 (Blk.lt f1); clear c0 c1 c2 z0 z1 z2 b3; have c0 := FL.c0 f4; have c1 := FL.c1 f4; have c2 := FL.c2 f4; have z0 := Blk.frozen f4 0; have z1 := Blk.frozen f4 1; have z2 := Blk.frozen f4 2; have b3 := Blk.lt f4))
  have fz := FL.store (k' := 1) (f' := 3) (a' := (s.size : Int)) f4
  have sz := SrcAt.set3 (u := .int .i64 (1)) (v := .int .i64 (3)) (x := .int .i64 ((s.size : Int))) s4 (show p ≠ w.heap.size by omega)
  have tz := Turn.set3 (b := w.heap.size) (u := .int .i64 (1)) (v := .int .i64 (3)) (x := .int .i64 ((s.size : Int))) t4 (.inr (Nat.le_refl _))
  generalize (((w4.setCell ⟨w.heap.size, 0, none⟩ (.int .i64 (1))).setCell ⟨w.heap.size, 1, none⟩ (.int .i64 (3))).setCell ⟨w.heap.size, 2, none⟩ (.int .i64 ((s.size : Int)))) = we at fz sz tz ⊢
  have e0 := fz.c0
  have e1 := fz.c1
  have e2 := fz.c2
  exact bodyPost_ret (v := .agg #[.int .i64 (1), .int .i64 (3), .int .i64 ((s.size : Int))]) (by simp [results, Try.results64, go_sem, e0, e1, e2]) rfl ⟨rfl, tz⟩

set_option maxRecDepth 100000 in
set_option maxHeartbeats 1000000 in
theorem one_wrong {p g : Nat} {s : ByteArray} {x : Led} {a k : Nat} (ha : a ≤ s.size) (hsm : s.size ≤ 1099511627776) (hx : x.reason = 0) (ok : x.Ok) (hs : x.steps + k + 1 ≤ x.S) (hz : a < s.size) (hb : isBlank (bat s a) = false) : OneBad p g s x a k 2 a := by
  intro w h hl
  have hpl := Blk.lt h
  have hgl := Blk.lt hl
  have hpg := h.ne hl
  have S1 : SrcAt (w.alloc (.cells #[.int .i64 0, .int .i64 0, .int .i64 0] 34)) p g s 0 s.size a := Blk.alloc h _
  have L1 : LedAt (w.alloc (.cells #[.int .i64 0, .int .i64 0, .int .i64 0] 34)) g (x.used k) := Blk.alloc hl _
  have F1 : FL (w.alloc (.cells #[.int .i64 0, .int .i64 0, .int .i64 0] 34)) w.heap.size 0 0 0 := Blk.new _ _ _
  have T1 : Turn [p, g] w (w.alloc (.cells #[.int .i64 0, .int .i64 0, .int .i64 0] 34)) := (Turn.refl _ _).alloc _
  have HO : Hid (SrcOk s 0 s.size a) := Lib.hid ⟨Nat.zero_le _, ha, Nat.le_refl _, hsm⟩
  have HS1 := Lib.hid S1
  have HL1 := Lib.hid L1
  have HK := Lib.hid (Led.used_ok (k := k) ok (by omega))
  have HW := Lib.hid (Led.used_yes (k := k) hx (by omega))
  have HX1 := Lib.hid (show (x.used (k + 1)).reason = 0 from hx)
  clear h hl S1 L1 hx ok hs
  go_enter Try.func64, Try.ntmps64
  go_wp2_with (first
    | (go_at_call 18; refine (srcAt_at HS1.out).mono ?_; rintro e w9 ⟨rfl, rfl⟩)
    | (go_at_call 104; refine (srcU8_yes HS1.out HO.out HL1.out HK.out HW.out hz).mono ?_; rintro e w1 ⟨rfl, s1, l1, t01⟩; have t1 := T1.trans t01; have f1 : FL w1 w.heap.size 0 0 0 := FL.turn F1 t01 (not_two (by omega) (by omega)); have c0 := FL.c0 f1; have c1 := FL.c1 f1; have c2 := FL.c2 f1; have z0 := Blk.frozen f1 0; have z1 := Blk.frozen f1 1; have z2 := Blk.frozen f1 2; have b3 := Blk.lt f1)
    | (go_at_call 68; refine (blank_any (bat s a) _).mono ?_; rintro e w2 ⟨rfl, rfl⟩; rw [hb])
    | (go_at_call 108; refine (wrong_any _ _).mono ?_; rintro e w4 ⟨rfl, b4⟩; have t04 : Turn [p, g] _ w4 := Turn.of_below b4; have t4 := t1.trans t04; have s4 := Blk.below s1 b4 (Blk.lt s1); have f4 : FL w4 w.heap.size 0 0 0 := Blk.below f1 b4 (Blk.lt f1); clear c0 c1 c2 z0 z1 z2 b3; have c0 := FL.c0 f4; have c1 := FL.c1 f4; have c2 := FL.c2 f4; have z0 := Blk.frozen f4 0; have z1 := Blk.frozen f4 1; have z2 := Blk.frozen f4 2; have b3 := Blk.lt f4))
  have fz := FL.store (k' := 2) (f' := 3) (a' := (a : Int)) f4
  have sz := SrcAt.set3 (u := .int .i64 (2)) (v := .int .i64 (3)) (x := .int .i64 ((a : Int))) s4 (show p ≠ w.heap.size by omega)
  have tz := Turn.set3 (b := w.heap.size) (u := .int .i64 (2)) (v := .int .i64 (3)) (x := .int .i64 ((a : Int))) t4 (.inr (Nat.le_refl _))
  generalize (((w4.setCell ⟨w.heap.size, 0, none⟩ (.int .i64 (2))).setCell ⟨w.heap.size, 1, none⟩ (.int .i64 (3))).setCell ⟨w.heap.size, 2, none⟩ (.int .i64 ((a : Int)))) = we at fz sz tz ⊢
  have e0 := fz.c0
  have e1 := fz.c1
  have e2 := fz.c2
  exact bodyPost_ret (v := .agg #[.int .i64 (2), .int .i64 (3), .int .i64 ((a : Int))]) (by simp [results, Try.results64, go_sem, e0, e1, e2]) rfl ⟨rfl, tz⟩

set_option maxRecDepth 100000 in
set_option maxHeartbeats 1000000 in
theorem one_yes {p g : Nat} {s : ByteArray} {x : Led} {a k : Nat} (ha : a ≤ s.size) (hsm : s.size ≤ 1099511627776) (hx : x.reason = 0) (ok : x.Ok) (hs : x.steps + k + 1 ≤ x.S) (hz : a < s.size) (hb : isBlank (bat s a) = true) : OneOk p g s x a k := by
  intro w h hl
  have hpl := Blk.lt h
  have hgl := Blk.lt hl
  have hpg := h.ne hl
  have S1 : SrcAt (w.alloc (.cells #[.int .i64 0, .int .i64 0, .int .i64 0] 34)) p g s 0 s.size a := Blk.alloc h _
  have L1 : LedAt (w.alloc (.cells #[.int .i64 0, .int .i64 0, .int .i64 0] 34)) g (x.used k) := Blk.alloc hl _
  have F1 : FL (w.alloc (.cells #[.int .i64 0, .int .i64 0, .int .i64 0] 34)) w.heap.size 0 0 0 := Blk.new _ _ _
  have T1 : Turn [p, g] w (w.alloc (.cells #[.int .i64 0, .int .i64 0, .int .i64 0] 34)) := (Turn.refl _ _).alloc _
  have HO : Hid (SrcOk s 0 s.size a) := Lib.hid ⟨Nat.zero_le _, ha, Nat.le_refl _, hsm⟩
  have HS1 := Lib.hid S1
  have HL1 := Lib.hid L1
  have HK := Lib.hid (Led.used_ok (k := k) ok (by omega))
  have HW := Lib.hid (Led.used_yes (k := k) hx (by omega))
  have HX1 := Lib.hid (show (x.used (k + 1)).reason = 0 from hx)
  clear h hl S1 L1 hx ok hs
  go_enter Try.func64, Try.ntmps64
  go_wp2_with (first
    | (go_at_call 18; refine (srcAt_at HS1.out).mono ?_; rintro e w9 ⟨rfl, rfl⟩)
    | (go_at_call 104; refine (srcU8_yes HS1.out HO.out HL1.out HK.out HW.out hz).mono ?_; rintro e w1 ⟨rfl, s1, l1, t01⟩; have t1 := T1.trans t01; have f1 : FL w1 w.heap.size 0 0 0 := FL.turn F1 t01 (not_two (by omega) (by omega)); have c0 := FL.c0 f1; have c1 := FL.c1 f1; have c2 := FL.c2 f1; have z0 := Blk.frozen f1 0; have z1 := Blk.frozen f1 1; have z2 := Blk.frozen f1 2; have b3 := Blk.lt f1)
    | (go_at_call 68; refine (blank_any (bat s a) _).mono ?_; rintro e w2 ⟨rfl, rfl⟩; rw [hb]))
  have fz := FL.store (k' := 0) (f' := 0) (a' := 0) f1
  have sz := SrcAt.set3 (u := .int .i64 (0)) (v := .int .i64 (0)) (x := .int .i64 (0)) s1 (show p ≠ w.heap.size by omega)
  have tz := Turn.set3 (b := w.heap.size) (u := .int .i64 (0)) (v := .int .i64 (0)) (x := .int .i64 (0)) t1 (.inr (Nat.le_refl _))
  generalize (((w1.setCell ⟨w.heap.size, 0, none⟩ (.int .i64 (0))).setCell ⟨w.heap.size, 1, none⟩ (.int .i64 (0))).setCell ⟨w.heap.size, 2, none⟩ (.int .i64 (0))) = we at fz sz tz ⊢
  have e0 := fz.c0
  have e1 := fz.c1
  have e2 := fz.c2
  exact bodyPost_ret (v := .agg #[.int .i64 (0), .int .i64 (0), .int .i64 (0)]) (by simp [results, Try.results64, go_sem, e0, e1, e2]) rfl ⟨rfl, sz, tz⟩
end Go.Proofs.Ytegoakfhadmblaa
