/- A head's kind: its first two bytes. -/
import Derived.Test.YthljhebbblhakaaGreatDoorENum
namespace Go.Proofs.YthljhebbblhakaaGreatDoor
open Go.RowKit
set_option linter.unusedVariables false
set_option linter.unusedSimpArgs false

theorem pbad_any (k a : Int) (w : World) : Calls Tryz.prog 70 #[.int .i64 k, .int .i64 a] w fun e w' => e = .returned (.agg #[.int .i64 k, .int .i64 3, .int .i64 a]) ∧ Below w.heap.size w w' := by
  go_enter Tryz.func70, Tryz.ntmps70
  go_wp2_with fail
  exact bodyPost_ret (v := .agg #[.int .i64 k, .int .i64 3, .int .i64 a]) (by simp [results, Tryz.results70, go_sem]) rfl ⟨rfl, (Below.refl _ _).alloc (Nat.le_refl _) _⟩

set_option maxRecDepth 100000 in
set_option maxHeartbeats 1000000 in
theorem kind_end1 {w : World} {p g : Nat} {s : ByteArray} {x : Led} (h : SrcAt w p g s 0 s.size 0) (hsm : s.size ≤ 1099511627776) (hl : LedAt w g x) (hx : x.reason = 0) (ok : x.Ok) (hs : x.steps + 2 ≤ x.S) (hz : 0 < s.size) (hz1 : s.size = 1) (hb : bat s 0 = 80) :
    Calls Tryz.prog 48 #[.pointer (some ⟨p, 0, none⟩)] w fun e w' => e = .returned (.tuple #[.int .i64 0, .agg #[.int .i64 1, .int .i64 3, .int .i64 1]]) ∧ SrcAt w' p g s 0 s.size 1 ∧ LedAt w' g (x.used 2) ∧ Turn [p, g] w w' := by
  have hpl := Blk.lt h
  have hgl := Blk.lt hl
  have hpg := h.ne hl
  have HS0 : Hid (SrcAt (w.alloc (.cells #[.int .i64 0, .int .i64 0, .int .i64 0] 33)) p g s 0 s.size 0) := Lib.hid (Blk.alloc h _)
  have HL0 : Hid (LedAt (w.alloc (.cells #[.int .i64 0, .int .i64 0, .int .i64 0] 33)) g (x.used 0)) := Lib.hid (by rw [Led.used_zero]; exact Blk.alloc hl _)
  have F1 : FL (w.alloc (.cells #[.int .i64 0, .int .i64 0, .int .i64 0] 33)) w.heap.size 0 0 0 := Blk.new _ _ _
  have T1 : Turn [p, g] w (w.alloc (.cells #[.int .i64 0, .int .i64 0, .int .i64 0] 33)) := (Turn.refl _ _).alloc _
  have HO0 : Hid (SrcOk s 0 s.size 0) := Lib.hid ⟨Nat.le_refl _, Nat.zero_le _, Nat.le_refl _, hsm⟩
  have HK0 := Lib.hid (Led.used_ok (k := 0) ok (by omega))
  have HW0 := Lib.hid (Led.used_yes (k := 0) hx (by omega))
  have HK1 := Lib.hid (Led.used_ok (k := 1) ok (by omega))
  have HW1 := Lib.hid (Led.used_yes (k := 1) hx (by omega))
  have HX1 := Lib.hid (show (x.used 1).reason = 0 from hx)
  have HX2 := Lib.hid (show (x.used 2).reason = 0 from hx)
  have hbi : ((bat s 0 : Nat) : Int) = 80 := by omega
  have HO1 : Hid (SrcOk s 0 s.size (0 + 1)) := Lib.hid ⟨Nat.zero_le _, by omega, Nat.le_refl _, hsm⟩
  have hz2 : ¬ 0 + 1 < s.size := by omega
  clear h hl hx ok hs
  go_enter Tryz.func48, Tryz.ntmps48
  go_wp2_with (first
    | (go_at_call 52; have := k1; refine (srcAt_at s1).mono ?_; rintro e w9 ⟨rfl, rfl⟩)
    | (go_at_call 52; refine (srcAt_at HS0.out).mono ?_; rintro e w9 ⟨rfl, rfl⟩)
    | (go_at_call 69; have := k1; refine (srcU8_short s1 HO1.out l1 HK1.out HW1.out hz2).mono ?_; rintro e w2 ⟨rfl, s2, l2, t02⟩; have t2 := t1.trans t02; have f2 := FL.turn f1 t02 (not_two (by omega) (by omega)); clear c0 c1 c2 z0 z1 z2 b3; have c0 := FL.c0 f2; have c1 := FL.c1 f2; have c2 := FL.c2 f2; have z0 := Blk.frozen f2 0; have z1 := Blk.frozen f2 1; have z2 := Blk.frozen f2 2; have b3 := Blk.lt f2)
    | (go_at_call 69; refine (srcU8_yes HS0.out HO0.out HL0.out HK0.out HW0.out hz).mono ?_; rintro e w1 ⟨rfl, s1, l1, t01⟩; have k1 := trivial; have t1 := T1.trans t01; have f1 : FL w1 w.heap.size 0 0 0 := FL.turn F1 t01 (not_two (by omega) (by omega)); have c0 := FL.c0 f1; have c1 := FL.c1 f1; have c2 := FL.c2 f1; have z0 := Blk.frozen f1 0; have z1 := Blk.frozen f1 1; have z2 := Blk.frozen f1 2; have b3 := Blk.lt f1)
    | (go_at_call 43; refine (srcFault_short 3 s2 l2 HX2.out).mono ?_; rintro e w4 ⟨rfl, b4⟩; have t04 : Turn [p, g] _ w4 := Turn.of_below b4; have t4 := t2.trans t04; have s4 := Blk.below s2 b4 (Blk.lt s2); have l4 := Blk.below l2 b4 (Blk.lt l2); have f4 : FL w4 w.heap.size 0 0 0 := Blk.below f2 b4 (Blk.lt f2); clear c0 c1 c2 z0 z1 z2 b3; have c0 := FL.c0 f4; have c1 := FL.c1 f4; have c2 := FL.c2 f4; have z0 := Blk.frozen f4 0; have z1 := Blk.frozen f4 1; have z2 := Blk.frozen f4 2; have b3 := Blk.lt f4))
  have fz := FL.store (k' := 1) (f' := 3) (a' := 1) f4
  have sz := SrcAt.set3 (u := .int .i64 1) (v := .int .i64 3) (x := .int .i64 1) s4 (show p ≠ w.heap.size by omega)
  have lz := LedAt.set3 (u := .int .i64 1) (v := .int .i64 3) (x := .int .i64 1) l4 (show g ≠ w.heap.size by omega)
  have tz := Turn.set3 (b := w.heap.size) (u := .int .i64 1) (v := .int .i64 3) (x := .int .i64 1) t4 (.inr (Nat.le_refl _))
  generalize (((w4.setCell ⟨w.heap.size, 0, none⟩ (.int .i64 1)).setCell ⟨w.heap.size, 1, none⟩ (.int .i64 3)).setCell ⟨w.heap.size, 2, none⟩ (.int .i64 1)) = we at fz sz lz tz ⊢
  have e0 := fz.c0
  have e1 := fz.c1
  have e2 := fz.c2
  exact bodyPost_ret (v := .tuple #[.int .i64 0, .agg #[.int .i64 1, .int .i64 3, .int .i64 1]]) (by simp [results, Tryz.results48, go_sem, e0, e1, e2]) rfl ⟨rfl, sz, lz, tz⟩

set_option maxRecDepth 100000 in
set_option maxHeartbeats 1000000 in
theorem kind_wrong1a {w : World} {p g : Nat} {s : ByteArray} {x : Led} (h : SrcAt w p g s 0 s.size 0) (hsm : s.size ≤ 1099511627776) (hl : LedAt w g x) (hx : x.reason = 0) (ok : x.Ok) (hs : x.steps + 2 ≤ x.S) (hz : 0 < s.size) (hz1 : 0 + 1 < s.size) (hb : bat s 0 = 80) (hb1 : bat s 1 < 49) :
    Calls Tryz.prog 48 #[.pointer (some ⟨p, 0, none⟩)] w fun e w' => e = .returned (.tuple #[.int .i64 0, .agg #[.int .i64 2, .int .i64 3, .int .i64 1]]) ∧ SrcAt w' p g s 0 s.size 2 ∧ LedAt w' g (x.used 2) ∧ Turn [p, g] w w' := by
  have hpl := Blk.lt h
  have hgl := Blk.lt hl
  have hpg := h.ne hl
  have HS0 : Hid (SrcAt (w.alloc (.cells #[.int .i64 0, .int .i64 0, .int .i64 0] 33)) p g s 0 s.size 0) := Lib.hid (Blk.alloc h _)
  have HL0 : Hid (LedAt (w.alloc (.cells #[.int .i64 0, .int .i64 0, .int .i64 0] 33)) g (x.used 0)) := Lib.hid (by rw [Led.used_zero]; exact Blk.alloc hl _)
  have F1 : FL (w.alloc (.cells #[.int .i64 0, .int .i64 0, .int .i64 0] 33)) w.heap.size 0 0 0 := Blk.new _ _ _
  have T1 : Turn [p, g] w (w.alloc (.cells #[.int .i64 0, .int .i64 0, .int .i64 0] 33)) := (Turn.refl _ _).alloc _
  have HO0 : Hid (SrcOk s 0 s.size 0) := Lib.hid ⟨Nat.le_refl _, Nat.zero_le _, Nat.le_refl _, hsm⟩
  have HK0 := Lib.hid (Led.used_ok (k := 0) ok (by omega))
  have HW0 := Lib.hid (Led.used_yes (k := 0) hx (by omega))
  have HK1 := Lib.hid (Led.used_ok (k := 1) ok (by omega))
  have HW1 := Lib.hid (Led.used_yes (k := 1) hx (by omega))
  have HX1 := Lib.hid (show (x.used 1).reason = 0 from hx)
  have HX2 := Lib.hid (show (x.used 2).reason = 0 from hx)
  have hbi : ((bat s 0 : Nat) : Int) = 80 := by omega
  have HO1 : Hid (SrcOk s 0 s.size (0 + 1)) := Lib.hid ⟨Nat.zero_le _, by omega, Nat.le_refl _, hsm⟩
  have j8 : ((bat s 1 : Nat) : Int) < 49 := by omega
  clear h hl hx ok hs
  go_enter Tryz.func48, Tryz.ntmps48
  go_wp2_with (first
    | (go_at_call 52; have := k1; refine (srcAt_at s1).mono ?_; rintro e w9 ⟨rfl, rfl⟩)
    | (go_at_call 52; refine (srcAt_at HS0.out).mono ?_; rintro e w9 ⟨rfl, rfl⟩)
    | (go_at_call 69; have := k1; refine (srcU8_yes s1 HO1.out l1 HK1.out HW1.out hz1).mono ?_; rintro e w2 ⟨rfl, s2, l2, t02⟩; have t2 := t1.trans t02; have f2 := FL.turn f1 t02 (not_two (by omega) (by omega)); clear c0 c1 c2 z0 z1 z2 b3; have c0 := FL.c0 f2; have c1 := FL.c1 f2; have c2 := FL.c2 f2; have z0 := Blk.frozen f2 0; have z1 := Blk.frozen f2 1; have z2 := Blk.frozen f2 2; have b3 := Blk.lt f2)
    | (go_at_call 69; refine (srcU8_yes HS0.out HO0.out HL0.out HK0.out HW0.out hz).mono ?_; rintro e w1 ⟨rfl, s1, l1, t01⟩; have k1 := trivial; have t1 := T1.trans t01; have f1 : FL w1 w.heap.size 0 0 0 := FL.turn F1 t01 (not_two (by omega) (by omega)); have c0 := FL.c0 f1; have c1 := FL.c1 f1; have c2 := FL.c2 f1; have z0 := Blk.frozen f1 0; have z1 := Blk.frozen f1 1; have z2 := Blk.frozen f1 2; have b3 := Blk.lt f1)
    | (go_at_call 70; refine (pbad_any 2 1 _).mono ?_; rintro e w4 ⟨rfl, b4⟩; have t04 : Turn [p, g] _ w4 := Turn.of_below b4; have t4 := t2.trans t04; have s4 := Blk.below s2 b4 (Blk.lt s2); have l4 := Blk.below l2 b4 (Blk.lt l2); have f4 : FL w4 w.heap.size 0 0 0 := Blk.below f2 b4 (Blk.lt f2); clear c0 c1 c2 z0 z1 z2 b3; have c0 := FL.c0 f4; have c1 := FL.c1 f4; have c2 := FL.c2 f4; have z0 := Blk.frozen f4 0; have z1 := Blk.frozen f4 1; have z2 := Blk.frozen f4 2; have b3 := Blk.lt f4))
  have fz := FL.store (k' := 2) (f' := 3) (a' := 1) f4
  have sz := SrcAt.set3 (u := .int .i64 2) (v := .int .i64 3) (x := .int .i64 1) s4 (show p ≠ w.heap.size by omega)
  have lz := LedAt.set3 (u := .int .i64 2) (v := .int .i64 3) (x := .int .i64 1) l4 (show g ≠ w.heap.size by omega)
  have tz := Turn.set3 (b := w.heap.size) (u := .int .i64 2) (v := .int .i64 3) (x := .int .i64 1) t4 (.inr (Nat.le_refl _))
  generalize (((w4.setCell ⟨w.heap.size, 0, none⟩ (.int .i64 2)).setCell ⟨w.heap.size, 1, none⟩ (.int .i64 3)).setCell ⟨w.heap.size, 2, none⟩ (.int .i64 1)) = we at fz sz lz tz ⊢
  have e0 := fz.c0
  have e1 := fz.c1
  have e2 := fz.c2
  exact bodyPost_ret (v := .tuple #[.int .i64 0, .agg #[.int .i64 2, .int .i64 3, .int .i64 1]]) (by simp [results, Tryz.results48, go_sem, e0, e1, e2]) rfl ⟨rfl, sz, lz, tz⟩

set_option maxRecDepth 100000 in
set_option maxHeartbeats 1000000 in
theorem kind_wrong1b {w : World} {p g : Nat} {s : ByteArray} {x : Led} (h : SrcAt w p g s 0 s.size 0) (hsm : s.size ≤ 1099511627776) (hl : LedAt w g x) (hx : x.reason = 0) (ok : x.Ok) (hs : x.steps + 2 ≤ x.S) (hz : 0 < s.size) (hz1 : 0 + 1 < s.size) (hb : bat s 0 = 80) (hb1 : 54 < bat s 1) :
    Calls Tryz.prog 48 #[.pointer (some ⟨p, 0, none⟩)] w fun e w' => e = .returned (.tuple #[.int .i64 0, .agg #[.int .i64 2, .int .i64 3, .int .i64 1]]) ∧ SrcAt w' p g s 0 s.size 2 ∧ LedAt w' g (x.used 2) ∧ Turn [p, g] w w' := by
  have hpl := Blk.lt h
  have hgl := Blk.lt hl
  have hpg := h.ne hl
  have HS0 : Hid (SrcAt (w.alloc (.cells #[.int .i64 0, .int .i64 0, .int .i64 0] 33)) p g s 0 s.size 0) := Lib.hid (Blk.alloc h _)
  have HL0 : Hid (LedAt (w.alloc (.cells #[.int .i64 0, .int .i64 0, .int .i64 0] 33)) g (x.used 0)) := Lib.hid (by rw [Led.used_zero]; exact Blk.alloc hl _)
  have F1 : FL (w.alloc (.cells #[.int .i64 0, .int .i64 0, .int .i64 0] 33)) w.heap.size 0 0 0 := Blk.new _ _ _
  have T1 : Turn [p, g] w (w.alloc (.cells #[.int .i64 0, .int .i64 0, .int .i64 0] 33)) := (Turn.refl _ _).alloc _
  have HO0 : Hid (SrcOk s 0 s.size 0) := Lib.hid ⟨Nat.le_refl _, Nat.zero_le _, Nat.le_refl _, hsm⟩
  have HK0 := Lib.hid (Led.used_ok (k := 0) ok (by omega))
  have HW0 := Lib.hid (Led.used_yes (k := 0) hx (by omega))
  have HK1 := Lib.hid (Led.used_ok (k := 1) ok (by omega))
  have HW1 := Lib.hid (Led.used_yes (k := 1) hx (by omega))
  have HX1 := Lib.hid (show (x.used 1).reason = 0 from hx)
  have HX2 := Lib.hid (show (x.used 2).reason = 0 from hx)
  have hbi : ((bat s 0 : Nat) : Int) = 80 := by omega
  have HO1 : Hid (SrcOk s 0 s.size (0 + 1)) := Lib.hid ⟨Nat.zero_le _, by omega, Nat.le_refl _, hsm⟩
  have j8 : ¬ ((bat s 1 : Nat) : Int) < 49 := by omega
  have j9 : (54 : Int) < ((bat s 1 : Nat) : Int) := by omega
  clear h hl hx ok hs
  go_enter Tryz.func48, Tryz.ntmps48
  go_wp2_with (first
    | (go_at_call 52; have := k1; refine (srcAt_at s1).mono ?_; rintro e w9 ⟨rfl, rfl⟩)
    | (go_at_call 52; refine (srcAt_at HS0.out).mono ?_; rintro e w9 ⟨rfl, rfl⟩)
    | (go_at_call 69; have := k1; refine (srcU8_yes s1 HO1.out l1 HK1.out HW1.out hz1).mono ?_; rintro e w2 ⟨rfl, s2, l2, t02⟩; have t2 := t1.trans t02; have f2 := FL.turn f1 t02 (not_two (by omega) (by omega)); clear c0 c1 c2 z0 z1 z2 b3; have c0 := FL.c0 f2; have c1 := FL.c1 f2; have c2 := FL.c2 f2; have z0 := Blk.frozen f2 0; have z1 := Blk.frozen f2 1; have z2 := Blk.frozen f2 2; have b3 := Blk.lt f2)
    | (go_at_call 69; refine (srcU8_yes HS0.out HO0.out HL0.out HK0.out HW0.out hz).mono ?_; rintro e w1 ⟨rfl, s1, l1, t01⟩; have k1 := trivial; have t1 := T1.trans t01; have f1 : FL w1 w.heap.size 0 0 0 := FL.turn F1 t01 (not_two (by omega) (by omega)); have c0 := FL.c0 f1; have c1 := FL.c1 f1; have c2 := FL.c2 f1; have z0 := Blk.frozen f1 0; have z1 := Blk.frozen f1 1; have z2 := Blk.frozen f1 2; have b3 := Blk.lt f1)
    | (go_at_call 70; refine (pbad_any 2 1 _).mono ?_; rintro e w4 ⟨rfl, b4⟩; have t04 : Turn [p, g] _ w4 := Turn.of_below b4; have t4 := t2.trans t04; have s4 := Blk.below s2 b4 (Blk.lt s2); have l4 := Blk.below l2 b4 (Blk.lt l2); have f4 : FL w4 w.heap.size 0 0 0 := Blk.below f2 b4 (Blk.lt f2); clear c0 c1 c2 z0 z1 z2 b3; have c0 := FL.c0 f4; have c1 := FL.c1 f4; have c2 := FL.c2 f4; have z0 := Blk.frozen f4 0; have z1 := Blk.frozen f4 1; have z2 := Blk.frozen f4 2; have b3 := Blk.lt f4))
  have fz := FL.store (k' := 2) (f' := 3) (a' := 1) f4
  have sz := SrcAt.set3 (u := .int .i64 2) (v := .int .i64 3) (x := .int .i64 1) s4 (show p ≠ w.heap.size by omega)
  have lz := LedAt.set3 (u := .int .i64 2) (v := .int .i64 3) (x := .int .i64 1) l4 (show g ≠ w.heap.size by omega)
  have tz := Turn.set3 (b := w.heap.size) (u := .int .i64 2) (v := .int .i64 3) (x := .int .i64 1) t4 (.inr (Nat.le_refl _))
  generalize (((w4.setCell ⟨w.heap.size, 0, none⟩ (.int .i64 2)).setCell ⟨w.heap.size, 1, none⟩ (.int .i64 3)).setCell ⟨w.heap.size, 2, none⟩ (.int .i64 1)) = we at fz sz lz tz ⊢
  have e0 := fz.c0
  have e1 := fz.c1
  have e2 := fz.c2
  exact bodyPost_ret (v := .tuple #[.int .i64 0, .agg #[.int .i64 2, .int .i64 3, .int .i64 1]]) (by simp [results, Tryz.results48, go_sem, e0, e1, e2]) rfl ⟨rfl, sz, lz, tz⟩

set_option maxRecDepth 100000 in
set_option maxHeartbeats 1000000 in
theorem kind_ok {w : World} {p g : Nat} {s : ByteArray} {x : Led} (h : SrcAt w p g s 0 s.size 0) (hsm : s.size ≤ 1099511627776) (hl : LedAt w g x) (hx : x.reason = 0) (ok : x.Ok) (hs : x.steps + 2 ≤ x.S) (hz : 0 < s.size) (hz1 : 0 + 1 < s.size) (hb : bat s 0 = 80) (hb1 : 49 ≤ bat s 1 ∧ bat s 1 ≤ 54) :
    Calls Tryz.prog 48 #[.pointer (some ⟨p, 0, none⟩)] w fun e w' => e = .returned (.tuple #[.int .i64 ((bat s 1 - 48 : Nat) : Int), .agg #[.int .i64 0, .int .i64 0, .int .i64 0]]) ∧ SrcAt w' p g s 0 s.size 2 ∧ LedAt w' g (x.used 2) ∧ Turn [p, g] w w' := by
  have hpl := Blk.lt h
  have hgl := Blk.lt hl
  have hpg := h.ne hl
  have HS0 : Hid (SrcAt (w.alloc (.cells #[.int .i64 0, .int .i64 0, .int .i64 0] 33)) p g s 0 s.size 0) := Lib.hid (Blk.alloc h _)
  have HL0 : Hid (LedAt (w.alloc (.cells #[.int .i64 0, .int .i64 0, .int .i64 0] 33)) g (x.used 0)) := Lib.hid (by rw [Led.used_zero]; exact Blk.alloc hl _)
  have F1 : FL (w.alloc (.cells #[.int .i64 0, .int .i64 0, .int .i64 0] 33)) w.heap.size 0 0 0 := Blk.new _ _ _
  have T1 : Turn [p, g] w (w.alloc (.cells #[.int .i64 0, .int .i64 0, .int .i64 0] 33)) := (Turn.refl _ _).alloc _
  have HO0 : Hid (SrcOk s 0 s.size 0) := Lib.hid ⟨Nat.le_refl _, Nat.zero_le _, Nat.le_refl _, hsm⟩
  have HK0 := Lib.hid (Led.used_ok (k := 0) ok (by omega))
  have HW0 := Lib.hid (Led.used_yes (k := 0) hx (by omega))
  have HK1 := Lib.hid (Led.used_ok (k := 1) ok (by omega))
  have HW1 := Lib.hid (Led.used_yes (k := 1) hx (by omega))
  have HX1 := Lib.hid (show (x.used 1).reason = 0 from hx)
  have HX2 := Lib.hid (show (x.used 2).reason = 0 from hx)
  have hbi : ((bat s 0 : Nat) : Int) = 80 := by omega
  have HO1 : Hid (SrcOk s 0 s.size (0 + 1)) := Lib.hid ⟨Nat.zero_le _, by omega, Nat.le_refl _, hsm⟩
  have j8 : ¬ ((bat s 1 : Nat) : Int) < 49 := by omega
  have j9 : ¬ (54 : Int) < ((bat s 1 : Nat) : Int) := by omega
  have hcast : ((bat s 1 : Nat) : Int) - 48 = ((bat s 1 - 48 : Nat) : Int) := by omega
  clear h hl hx ok hs
  go_enter Tryz.func48, Tryz.ntmps48
  go_wp2_with (first
    | (go_at_call 52; have := k1; refine (srcAt_at s1).mono ?_; rintro e w9 ⟨rfl, rfl⟩)
    | (go_at_call 52; refine (srcAt_at HS0.out).mono ?_; rintro e w9 ⟨rfl, rfl⟩)
    | (go_at_call 69; have := k1; refine (srcU8_yes s1 HO1.out l1 HK1.out HW1.out hz1).mono ?_; rintro e w2 ⟨rfl, s2, l2, t02⟩; have t2 := t1.trans t02; have f2 := FL.turn f1 t02 (not_two (by omega) (by omega)); clear c0 c1 c2 z0 z1 z2 b3; have c0 := FL.c0 f2; have c1 := FL.c1 f2; have c2 := FL.c2 f2; have z0 := Blk.frozen f2 0; have z1 := Blk.frozen f2 1; have z2 := Blk.frozen f2 2; have b3 := Blk.lt f2)
    | (go_at_call 69; refine (srcU8_yes HS0.out HO0.out HL0.out HK0.out HW0.out hz).mono ?_; rintro e w1 ⟨rfl, s1, l1, t01⟩; have k1 := trivial; have t1 := T1.trans t01; have f1 : FL w1 w.heap.size 0 0 0 := FL.turn F1 t01 (not_two (by omega) (by omega)); have c0 := FL.c0 f1; have c1 := FL.c1 f1; have c2 := FL.c2 f1; have z0 := Blk.frozen f1 0; have z1 := Blk.frozen f1 1; have z2 := Blk.frozen f1 2; have b3 := Blk.lt f1))
  have fz := FL.store (k' := 0) (f' := 0) (a' := 0) f2
  have sz := SrcAt.set3 (u := .int .i64 0) (v := .int .i64 0) (x := .int .i64 0) s2 (show p ≠ w.heap.size by omega)
  have lz := LedAt.set3 (u := .int .i64 0) (v := .int .i64 0) (x := .int .i64 0) l2 (show g ≠ w.heap.size by omega)
  have tz := Turn.set3 (b := w.heap.size) (u := .int .i64 0) (v := .int .i64 0) (x := .int .i64 0) t2 (.inr (Nat.le_refl _))
  generalize (((w2.setCell ⟨w.heap.size, 0, none⟩ (.int .i64 0)).setCell ⟨w.heap.size, 1, none⟩ (.int .i64 0)).setCell ⟨w.heap.size, 2, none⟩ (.int .i64 0)) = we at fz sz lz tz ⊢
  have e0 := fz.c0
  have e1 := fz.c1
  have e2 := fz.c2
  exact bodyPost_ret (v := .tuple #[.int .i64 ((bat s 1 - 48 : Nat) : Int), .agg #[.int .i64 0, .int .i64 0, .int .i64 0]]) (by simp [results, Tryz.results48, go_sem, e0, e1, e2]) rfl ⟨rfl, sz, lz, tz⟩

end Go.Proofs.YthljhebbblhakaaGreatDoor
