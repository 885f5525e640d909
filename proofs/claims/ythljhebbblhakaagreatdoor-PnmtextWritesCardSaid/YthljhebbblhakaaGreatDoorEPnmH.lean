/- pnmhead.kind, pnmhead.number, token.One: each way, by whatever ledger. -/
import Derived.Test.YthljhebbblhakaaGreatDoorEPnmW
import Derived.Test.YthljhebbblhakaaGreatDoorEPnmKind
namespace Go.Proofs.YthljhebbblhakaaGreatDoor
open Go.RowKit
set_option linter.unusedVariables false
set_option linter.unusedSimpArgs false

set_option maxRecDepth 100000 in
set_option maxHeartbeats 1000000 in
theorem kindE0 {w : World} {p g : Nat} {s : ByteArray} {x : Led} (h : SrcAt w p g s 0 s.size 0) (hsm : s.size ≤ 1099511627776) (hl : LedAt w g x) (hx : x.reason = 0) (ok : x.Ok) (hs : x.steps + 1 ≤ x.S) (hz : s.size = 0) :
    Calls Tryz.prog 48 #[.pointer (some ⟨p, 0, none⟩)] w fun e w' => e = .returned (.tuple #[.int .i64 0, .agg #[.int .i64 1, .int .i64 3, .int .i64 0]]) ∧ SrcAt w' p g s 0 s.size 0 ∧ LedAt w' g (x.used 1) ∧ Turn [p, g] w w' := by
  have hpl := Blk.lt h
  have hgl := Blk.lt hl
  have hpg := h.ne hl
  have HS0 : Hid (SrcAt (w.alloc (.cells #[.int .i64 0, .int .i64 0, .int .i64 0] 33)) p g s 0 s.size 0) := Lib.hid (Blk.alloc h _)
  have HL0 : Hid (LedAt (w.alloc (.cells #[.int .i64 0, .int .i64 0, .int .i64 0] 33)) g (x.used 0)) := Lib.hid (by rw [Led.used_zero]; exact Blk.alloc hl _)
  have F1 : FL (w.alloc (.cells #[.int .i64 0, .int .i64 0, .int .i64 0] 33)) w.heap.size 0 0 0 := Blk.new _ _ _
  have T1 : Turn [p, g] w (w.alloc (.cells #[.int .i64 0, .int .i64 0, .int .i64 0] 33)) := (Turn.refl _ _).alloc _
  have HO0 : Hid (SrcOk s 0 s.size 0) := Lib.hid ⟨Nat.le_refl _, Nat.zero_le _, Nat.le_refl _, hsm⟩
  have HK0 := Lib.hid (Led.used_ok (k := 0) ok (by omega))
  have HW0 := Lib.hid (Led.used_yes (k := 0) hx (by omega))
  have HX1 := Lib.hid (show (x.used 1).reason = 0 from hx)
  have HX2 := Lib.hid (show (x.used 2).reason = 0 from hx)
  have hz0 : ¬ 0 < s.size := by omega
  clear h hl hx ok hs
  go_enter Tryz.func48, Tryz.ntmps48
  go_wp2_with (first
    | (go_at_call 52; refine (srcAt_at HS0.out).mono ?_; rintro e w9 ⟨rfl, rfl⟩)
    | (go_at_call 69; refine (srcU8_short HS0.out HO0.out HL0.out HK0.out HW0.out hz0).mono ?_; rintro e w1 ⟨rfl, s1, l1, t01⟩; have t1 := T1.trans t01; have f1 : FL w1 w.heap.size 0 0 0 := FL.turn F1 t01 (not_two (by omega) (by omega)); have c0 := FL.c0 f1; have c1 := FL.c1 f1; have c2 := FL.c2 f1; have z0 := Blk.frozen f1 0; have z1 := Blk.frozen f1 1; have z2 := Blk.frozen f1 2; have b3 := Blk.lt f1)
    | (go_at_call 43; refine (srcFault_short 3 s1 l1 HX1.out).mono ?_; rintro e w4 ⟨rfl, b4⟩; have t04 : Turn [p, g] _ w4 := Turn.of_below b4; have t4 := t1.trans t04; have s4 := Blk.below s1 b4 (Blk.lt s1); have l4 := Blk.below l1 b4 (Blk.lt l1); have f4 : FL w4 w.heap.size 0 0 0 := Blk.below f1 b4 (Blk.lt f1); clear c0 c1 c2 z0 z1 z2 b3; have c0 := FL.c0 f4; have c1 := FL.c1 f4; have c2 := FL.c2 f4; have z0 := Blk.frozen f4 0; have z1 := Blk.frozen f4 1; have z2 := Blk.frozen f4 2; have b3 := Blk.lt f4))
  have fz := FL.store (k' := 1) (f' := 3) (a' := 0) f4
  have sz := SrcAt.set3 (u := .int .i64 1) (v := .int .i64 3) (x := .int .i64 0) s4 (show p ≠ w.heap.size by omega)
  have lz := LedAt.set3 (u := .int .i64 1) (v := .int .i64 3) (x := .int .i64 0) l4 (show g ≠ w.heap.size by omega)
  have tz := Turn.set3 (b := w.heap.size) (u := .int .i64 1) (v := .int .i64 3) (x := .int .i64 0) t4 (.inr (Nat.le_refl _))
  generalize (((w4.setCell ⟨w.heap.size, 0, none⟩ (.int .i64 1)).setCell ⟨w.heap.size, 1, none⟩ (.int .i64 3)).setCell ⟨w.heap.size, 2, none⟩ (.int .i64 0)) = we at fz sz lz tz ⊢
  have e0 := fz.c0
  have e1 := fz.c1
  have e2 := fz.c2
  exact bodyPost_ret (v := .tuple #[.int .i64 0, .agg #[.int .i64 1, .int .i64 3, .int .i64 0]]) (by simp [results, Tryz.results48, go_sem, e0, e1, e2]) rfl ⟨rfl, sz, lz, tz⟩
set_option maxRecDepth 100000 in
set_option maxHeartbeats 1000000 in
theorem kindW0 {w : World} {p g : Nat} {s : ByteArray} {x : Led} (h : SrcAt w p g s 0 s.size 0) (hsm : s.size ≤ 1099511627776) (hl : LedAt w g x) (hx : x.reason = 0) (ok : x.Ok) (hs : x.steps + 1 ≤ x.S) (hz : 0 < s.size) (hb : bat s 0 ≠ 80) :
    Calls Tryz.prog 48 #[.pointer (some ⟨p, 0, none⟩)] w fun e w' => e = .returned (.tuple #[.int .i64 0, .agg #[.int .i64 2, .int .i64 3, .int .i64 0]]) ∧ SrcAt w' p g s 0 s.size 1 ∧ LedAt w' g (x.used 1) ∧ Turn [p, g] w w' := by
  have hpl := Blk.lt h
  have hgl := Blk.lt hl
  have hpg := h.ne hl
  have HS0 : Hid (SrcAt (w.alloc (.cells #[.int .i64 0, .int .i64 0, .int .i64 0] 33)) p g s 0 s.size 0) := Lib.hid (Blk.alloc h _)
  have HL0 : Hid (LedAt (w.alloc (.cells #[.int .i64 0, .int .i64 0, .int .i64 0] 33)) g (x.used 0)) := Lib.hid (by rw [Led.used_zero]; exact Blk.alloc hl _)
  have F1 : FL (w.alloc (.cells #[.int .i64 0, .int .i64 0, .int .i64 0] 33)) w.heap.size 0 0 0 := Blk.new _ _ _
  have T1 : Turn [p, g] w (w.alloc (.cells #[.int .i64 0, .int .i64 0, .int .i64 0] 33)) := (Turn.refl _ _).alloc _
  have HO0 : Hid (SrcOk s 0 s.size 0) := Lib.hid ⟨Nat.le_refl _, Nat.zero_le _, Nat.le_refl _, hsm⟩
  have HK0 := Lib.hid (Led.used_ok (k := 0) ok (by omega))
  have HW0 := Lib.hid (Led.used_yes (k := 0) hx (by omega))
  have HX1 := Lib.hid (show (x.used 1).reason = 0 from hx)
  have HX2 := Lib.hid (show (x.used 2).reason = 0 from hx)
  have hbi : ¬ ((bat s 0 : Nat) : Int) = 80 := by omega
  clear h hl hx ok hs
  go_enter Tryz.func48, Tryz.ntmps48
  go_wp2_with (first
    | (go_at_call 52; refine (srcAt_at HS0.out).mono ?_; rintro e w9 ⟨rfl, rfl⟩)
    | (go_at_call 69; refine (srcU8_yes HS0.out HO0.out HL0.out HK0.out HW0.out hz).mono ?_; rintro e w1 ⟨rfl, s1, l1, t01⟩; have t1 := T1.trans t01; have f1 : FL w1 w.heap.size 0 0 0 := FL.turn F1 t01 (not_two (by omega) (by omega)); have c0 := FL.c0 f1; have c1 := FL.c1 f1; have c2 := FL.c2 f1; have z0 := Blk.frozen f1 0; have z1 := Blk.frozen f1 1; have z2 := Blk.frozen f1 2; have b3 := Blk.lt f1)
    | (go_at_call 70; refine (pbad_any 2 0 _).mono ?_; rintro e w4 ⟨rfl, b4⟩; have t04 : Turn [p, g] _ w4 := Turn.of_below b4; have t4 := t1.trans t04; have s4 := Blk.below s1 b4 (Blk.lt s1); have l4 := Blk.below l1 b4 (Blk.lt l1); have f4 : FL w4 w.heap.size 0 0 0 := Blk.below f1 b4 (Blk.lt f1); clear c0 c1 c2 z0 z1 z2 b3; have c0 := FL.c0 f4; have c1 := FL.c1 f4; have c2 := FL.c2 f4; have z0 := Blk.frozen f4 0; have z1 := Blk.frozen f4 1; have z2 := Blk.frozen f4 2; have b3 := Blk.lt f4))
  have fz := FL.store (k' := 2) (f' := 3) (a' := 0) f4
  have sz := SrcAt.set3 (u := .int .i64 2) (v := .int .i64 3) (x := .int .i64 0) s4 (show p ≠ w.heap.size by omega)
  have lz := LedAt.set3 (u := .int .i64 2) (v := .int .i64 3) (x := .int .i64 0) l4 (show g ≠ w.heap.size by omega)
  have tz := Turn.set3 (b := w.heap.size) (u := .int .i64 2) (v := .int .i64 3) (x := .int .i64 0) t4 (.inr (Nat.le_refl _))
  generalize (((w4.setCell ⟨w.heap.size, 0, none⟩ (.int .i64 2)).setCell ⟨w.heap.size, 1, none⟩ (.int .i64 3)).setCell ⟨w.heap.size, 2, none⟩ (.int .i64 0)) = we at fz sz lz tz ⊢
  have e0 := fz.c0
  have e1 := fz.c1
  have e2 := fz.c2
  exact bodyPost_ret (v := .tuple #[.int .i64 0, .agg #[.int .i64 2, .int .i64 3, .int .i64 0]]) (by simp [results, Tryz.results48, go_sem, e0, e1, e2]) rfl ⟨rfl, sz, lz, tz⟩
set_option maxRecDepth 100000 in
set_option maxHeartbeats 1000000 in
theorem kindS0 {w : World} {p g : Nat} {s : ByteArray} {x : Led} (h : SrcAt w p g s 0 s.size 0) (hsm : s.size ≤ 1099511627776) (hl : LedAt w g x) (hx : x.reason = 0) (ok : x.Ok) (hs : x.steps = x.S) :
    Calls Tryz.prog 48 #[.pointer (some ⟨p, 0, none⟩)] w fun e w' => e = .returned (.tuple #[.int .i64 0, .agg #[.int .i64 4, .int .i64 3, .int .i64 0]]) ∧ SrcAt w' p g s 0 s.size 0 ∧ LedAt w' g ((x.used 0).refused 3 1) ∧ Turn [p, g] w w' := by
  have hpl := Blk.lt h
  have hgl := Blk.lt hl
  have hpg := h.ne hl
  have HS0 : Hid (SrcAt (w.alloc (.cells #[.int .i64 0, .int .i64 0, .int .i64 0] 33)) p g s 0 s.size 0) := Lib.hid (Blk.alloc h _)
  have HL0 : Hid (LedAt (w.alloc (.cells #[.int .i64 0, .int .i64 0, .int .i64 0] 33)) g (x.used 0)) := Lib.hid (by rw [Led.used_zero]; exact Blk.alloc hl _)
  have F1 : FL (w.alloc (.cells #[.int .i64 0, .int .i64 0, .int .i64 0] 33)) w.heap.size 0 0 0 := Blk.new _ _ _
  have T1 : Turn [p, g] w (w.alloc (.cells #[.int .i64 0, .int .i64 0, .int .i64 0] 33)) := (Turn.refl _ _).alloc _
  have HO0 : Hid (SrcOk s 0 s.size 0) := Lib.hid ⟨Nat.le_refl _, Nat.zero_le _, Nat.le_refl _, hsm⟩
  have HK0 := Lib.hid (Led.used_ok (k := 0) ok (by omega))
  have HW0 := Lib.hid (Led.used_no (k := 0) hx (by omega))
  have HX1 := Lib.hid (show ((x.used 0).refused 3 1).reason ≠ 0 by simp [Led.refused])
  have HX2 := Lib.hid (show (x.used 2).reason = 0 from hx)
  clear h hl hx ok hs
  go_enter Tryz.func48, Tryz.ntmps48
  go_wp2_with (first
    | (go_at_call 52; refine (srcAt_at HS0.out).mono ?_; rintro e w9 ⟨rfl, rfl⟩)
    | (go_at_call 69; refine (srcU8_spent HS0.out HL0.out HK0.out HW0.out).mono ?_; rintro e w1 ⟨rfl, s1, l1, t01⟩; have t1 := T1.trans t01; have f1 : FL w1 w.heap.size 0 0 0 := FL.turn F1 t01 (not_two (by omega) (by omega)); have c0 := FL.c0 f1; have c1 := FL.c1 f1; have c2 := FL.c2 f1; have z0 := Blk.frozen f1 0; have z1 := Blk.frozen f1 1; have z2 := Blk.frozen f1 2; have b3 := Blk.lt f1)
    | (go_at_call 43; refine (srcFault_spent 3 s1 l1 HX1.out).mono ?_; rintro e w4 ⟨rfl, b4⟩; have t04 : Turn [p, g] _ w4 := Turn.of_below b4; have t4 := t1.trans t04; have s4 := Blk.below s1 b4 (Blk.lt s1); have l4 := Blk.below l1 b4 (Blk.lt l1); have f4 : FL w4 w.heap.size 0 0 0 := Blk.below f1 b4 (Blk.lt f1); clear c0 c1 c2 z0 z1 z2 b3; have c0 := FL.c0 f4; have c1 := FL.c1 f4; have c2 := FL.c2 f4; have z0 := Blk.frozen f4 0; have z1 := Blk.frozen f4 1; have z2 := Blk.frozen f4 2; have b3 := Blk.lt f4))
  have fz := FL.store (k' := 4) (f' := 3) (a' := 0) f4
  have sz := SrcAt.set3 (u := .int .i64 4) (v := .int .i64 3) (x := .int .i64 0) s4 (show p ≠ w.heap.size by omega)
  have lz := LedAt.set3 (u := .int .i64 4) (v := .int .i64 3) (x := .int .i64 0) l4 (show g ≠ w.heap.size by omega)
  have tz := Turn.set3 (b := w.heap.size) (u := .int .i64 4) (v := .int .i64 3) (x := .int .i64 0) t4 (.inr (Nat.le_refl _))
  generalize (((w4.setCell ⟨w.heap.size, 0, none⟩ (.int .i64 4)).setCell ⟨w.heap.size, 1, none⟩ (.int .i64 3)).setCell ⟨w.heap.size, 2, none⟩ (.int .i64 0)) = we at fz sz lz tz ⊢
  have e0 := fz.c0
  have e1 := fz.c1
  have e2 := fz.c2
  exact bodyPost_ret (v := .tuple #[.int .i64 0, .agg #[.int .i64 4, .int .i64 3, .int .i64 0]]) (by simp [results, Tryz.results48, go_sem, e0, e1, e2]) rfl ⟨rfl, sz, lz, tz⟩
set_option maxRecDepth 100000 in
set_option maxHeartbeats 1000000 in
theorem kindS1 {w : World} {p g : Nat} {s : ByteArray} {x : Led} (h : SrcAt w p g s 0 s.size 0) (hsm : s.size ≤ 1099511627776) (hl : LedAt w g x) (hx : x.reason = 0) (ok : x.Ok) (hs : x.steps + 1 = x.S) (hz : 0 < s.size) (hb : bat s 0 = 80) :
    Calls Tryz.prog 48 #[.pointer (some ⟨p, 0, none⟩)] w fun e w' => e = .returned (.tuple #[.int .i64 0, .agg #[.int .i64 4, .int .i64 3, .int .i64 1]]) ∧ SrcAt w' p g s 0 s.size 1 ∧ LedAt w' g ((x.used 1).refused 3 1) ∧ Turn [p, g] w w' := by
  have hpl := Blk.lt h
  have hgl := Blk.lt hl
  have hpg := h.ne hl
  have HS0 : Hid (SrcAt (w.alloc (.cells #[.int .i64 0, .int .i64 0, .int .i64 0] 33)) p g s 0 s.size 0) := Lib.hid (Blk.alloc h _)
  have HL0 : Hid (LedAt (w.alloc (.cells #[.int .i64 0, .int .i64 0, .int .i64 0] 33)) g (x.used 0)) := Lib.hid (by rw [Led.used_zero]; exact Blk.alloc hl _)
  have F1 : FL (w.alloc (.cells #[.int .i64 0, .int .i64 0, .int .i64 0] 33)) w.heap.size 0 0 0 := Blk.new _ _ _
  have T1 : Turn [p, g] w (w.alloc (.cells #[.int .i64 0, .int .i64 0, .int .i64 0] 33)) := (Turn.refl _ _).alloc _
  have HO0 : Hid (SrcOk s 0 s.size 0) := Lib.hid ⟨Nat.le_refl _, Nat.zero_le _, Nat.le_refl _, hsm⟩
  have HK0 := Lib.hid (Led.used_ok (k := 0) ok (by omega))
  have HW0 := Lib.hid (Led.used_yes (k := 0) hx (by omega))
  have HK1 := Lib.hid (Led.used_ok (k := 1) ok (by omega))
  have HW1 := Lib.hid (Led.used_no (k := 1) hx (by omega))
  have HX1 := Lib.hid (show (x.used 1).reason = 0 from hx)
  have HX2 := Lib.hid (show ((x.used 1).refused 3 1).reason ≠ 0 by simp [Led.refused])
  have hbi : ((bat s 0 : Nat) : Int) = 80 := by omega
  have HO1 : Hid (SrcOk s 0 s.size (0 + 1)) := Lib.hid ⟨Nat.zero_le _, by omega, Nat.le_refl _, hsm⟩
  clear h hl hx ok hs
  go_enter Tryz.func48, Tryz.ntmps48
  go_wp2_with (first
    | (go_at_call 52; have := k1; refine (srcAt_at s1).mono ?_; rintro e w9 ⟨rfl, rfl⟩)
    | (go_at_call 52; refine (srcAt_at HS0.out).mono ?_; rintro e w9 ⟨rfl, rfl⟩)
    | (go_at_call 69; have := k1; refine (srcU8_spent s1 l1 HK1.out HW1.out).mono ?_; rintro e w2 ⟨rfl, s2, l2, t02⟩; have t2 := t1.trans t02; have f2 := FL.turn f1 t02 (not_two (by omega) (by omega)); clear c0 c1 c2 z0 z1 z2 b3; have c0 := FL.c0 f2; have c1 := FL.c1 f2; have c2 := FL.c2 f2; have z0 := Blk.frozen f2 0; have z1 := Blk.frozen f2 1; have z2 := Blk.frozen f2 2; have b3 := Blk.lt f2)
    | (go_at_call 69; refine (srcU8_yes HS0.out HO0.out HL0.out HK0.out HW0.out hz).mono ?_; rintro e w1 ⟨rfl, s1, l1, t01⟩; have k1 := trivial; have t1 := T1.trans t01; have f1 : FL w1 w.heap.size 0 0 0 := FL.turn F1 t01 (not_two (by omega) (by omega)); have c0 := FL.c0 f1; have c1 := FL.c1 f1; have c2 := FL.c2 f1; have z0 := Blk.frozen f1 0; have z1 := Blk.frozen f1 1; have z2 := Blk.frozen f1 2; have b3 := Blk.lt f1)
    | (go_at_call 43; refine (srcFault_spent 3 s2 l2 HX2.out).mono ?_; rintro e w4 ⟨rfl, b4⟩; have t04 : Turn [p, g] _ w4 := Turn.of_below b4; have t4 := t2.trans t04; have s4 := Blk.below s2 b4 (Blk.lt s2); have l4 := Blk.below l2 b4 (Blk.lt l2); have f4 : FL w4 w.heap.size 0 0 0 := Blk.below f2 b4 (Blk.lt f2); clear c0 c1 c2 z0 z1 z2 b3; have c0 := FL.c0 f4; have c1 := FL.c1 f4; have c2 := FL.c2 f4; have z0 := Blk.frozen f4 0; have z1 := Blk.frozen f4 1; have z2 := Blk.frozen f4 2; have b3 := Blk.lt f4))
  have fz := FL.store (k' := 4) (f' := 3) (a' := 1) f4
  have sz := SrcAt.set3 (u := .int .i64 4) (v := .int .i64 3) (x := .int .i64 1) s4 (show p ≠ w.heap.size by omega)
  have lz := LedAt.set3 (u := .int .i64 4) (v := .int .i64 3) (x := .int .i64 1) l4 (show g ≠ w.heap.size by omega)
  have tz := Turn.set3 (b := w.heap.size) (u := .int .i64 4) (v := .int .i64 3) (x := .int .i64 1) t4 (.inr (Nat.le_refl _))
  generalize (((w4.setCell ⟨w.heap.size, 0, none⟩ (.int .i64 4)).setCell ⟨w.heap.size, 1, none⟩ (.int .i64 3)).setCell ⟨w.heap.size, 2, none⟩ (.int .i64 1)) = we at fz sz lz tz ⊢
  have e0 := fz.c0
  have e1 := fz.c1
  have e2 := fz.c2
  exact bodyPost_ret (v := .tuple #[.int .i64 0, .agg #[.int .i64 4, .int .i64 3, .int .i64 1]]) (by simp [results, Tryz.results48, go_sem, e0, e1, e2]) rfl ⟨rfl, sz, lz, tz⟩
set_option maxRecDepth 100000 in
set_option maxHeartbeats 1000000 in
theorem oneE {w : World} {p g a : Nat} {s : ByteArray} {x y : Led} (h : SrcAt w p g s 0 s.size a) (o : SrcOk s 0 s.size a) (hl : LedAt w g x) (ok : x.Ok) (hw : x.work 1 = (y, true)) (hy : y.reason = 0) (hz : ¬ a < s.size) :
    Calls Tryz.prog 51 #[.pointer (some ⟨p, 0, none⟩)] w fun e w' => e = .returned (.agg #[.int .i64 1, .int .i64 3, .int .i64 (s.size : Int)]) ∧ LedAt w' g y ∧ Turn [p, g] w w' := by
  have hpl := Blk.lt h
  have hgl := Blk.lt hl
  have hpg := h.ne hl
  have S1 : SrcAt (w.alloc (.cells #[.int .i64 0, .int .i64 0, .int .i64 0] 33)) p g s 0 s.size a := Blk.alloc h _
  have L1 : LedAt (w.alloc (.cells #[.int .i64 0, .int .i64 0, .int .i64 0] 33)) g x := Blk.alloc hl _
  have F1 : FL (w.alloc (.cells #[.int .i64 0, .int .i64 0, .int .i64 0] 33)) w.heap.size 0 0 0 := Blk.new _ _ _
  have T1 : Turn [p, g] w (w.alloc (.cells #[.int .i64 0, .int .i64 0, .int .i64 0] 33)) := (Turn.refl _ _).alloc _
  have HO := Lib.hid o
  have HOK := Lib.hid ok
  have HW := Lib.hid hw
  have HY := Lib.hid hy
  have hal := o.at_
  have HS1 := Lib.hid S1
  have HL1 := Lib.hid L1
  clear h hl S1 L1 ok hw hy o
  go_enter Tryz.func51, Tryz.ntmps51
  go_wp2_with (first
    | (go_at_call 52; refine (srcAt_at HS1.out).mono ?_; rintro e w9 ⟨rfl, rfl⟩)
    | (go_at_call 69; refine (srcU8_short HS1.out HO.out HL1.out HOK.out HW.out hz).mono ?_; rintro e w1 ⟨rfl, s1, l1, t01⟩; have t1 := T1.trans t01; have f1 : FL w1 w.heap.size 0 0 0 := FL.turn F1 t01 (not_two (by omega) (by omega)); have c0 := FL.c0 f1; have c1 := FL.c1 f1; have c2 := FL.c2 f1; have z0 := Blk.frozen f1 0; have z1 := Blk.frozen f1 1; have z2 := Blk.frozen f1 2; have b3 := Blk.lt f1)
    | (go_at_call 43; refine (srcFault_short 3 s1 l1 HY.out).mono ?_; rintro e w4 ⟨rfl, b4⟩; have t04 : Turn [p, g] _ w4 := Turn.of_below b4; have t4 := t1.trans t04; have s4 := Blk.below s1 b4 (Blk.lt s1); have l4 := Blk.below l1 b4 (Blk.lt l1); have f4 : FL w4 w.heap.size 0 0 0 := Blk.below f1 b4 (Blk.lt f1); clear c0 c1 c2 z0 z1 z2 b3; have c0 := FL.c0 f4; have c1 := FL.c1 f4; have c2 := FL.c2 f4; have z0 := Blk.frozen f4 0; have z1 := Blk.frozen f4 1; have z2 := Blk.frozen f4 2; have b3 := Blk.lt f4))
  have fz := FL.store (k' := 1) (f' := 3) (a' := (s.size : Int)) f4
  have sz := SrcAt.set3 (u := .int .i64 1) (v := .int .i64 3) (x := .int .i64 (s.size : Int)) s4 (show p ≠ w.heap.size by omega)
  have lz := LedAt.set3 (u := .int .i64 1) (v := .int .i64 3) (x := .int .i64 (s.size : Int)) l4 (show g ≠ w.heap.size by omega)
  have tz := Turn.set3 (b := w.heap.size) (u := .int .i64 1) (v := .int .i64 3) (x := .int .i64 (s.size : Int)) t4 (.inr (Nat.le_refl _))
  generalize (((w4.setCell ⟨w.heap.size, 0, none⟩ (.int .i64 1)).setCell ⟨w.heap.size, 1, none⟩ (.int .i64 3)).setCell ⟨w.heap.size, 2, none⟩ (.int .i64 (s.size : Int))) = we at fz sz lz tz ⊢
  have e0 := fz.c0
  have e1 := fz.c1
  have e2 := fz.c2
  exact bodyPost_ret (v := .agg #[.int .i64 1, .int .i64 3, .int .i64 (s.size : Int)]) (by simp [results, Tryz.results51, go_sem, e0, e1, e2]) rfl ⟨rfl, lz, tz⟩
set_option maxRecDepth 100000 in
set_option maxHeartbeats 1000000 in
theorem oneS {w : World} {p g a : Nat} {s : ByteArray} {x y : Led} (h : SrcAt w p g s 0 s.size a) (o : SrcOk s 0 s.size a) (hl : LedAt w g x) (ok : x.Ok) (hw : x.work 1 = (y, false)) (hy : y.reason ≠ 0) :
    Calls Tryz.prog 51 #[.pointer (some ⟨p, 0, none⟩)] w fun e w' => e = .returned (.agg #[.int .i64 4, .int .i64 3, .int .i64 (a : Int)]) ∧ LedAt w' g y ∧ Turn [p, g] w w' := by
  have hpl := Blk.lt h
  have hgl := Blk.lt hl
  have hpg := h.ne hl
  have S1 : SrcAt (w.alloc (.cells #[.int .i64 0, .int .i64 0, .int .i64 0] 33)) p g s 0 s.size a := Blk.alloc h _
  have L1 : LedAt (w.alloc (.cells #[.int .i64 0, .int .i64 0, .int .i64 0] 33)) g x := Blk.alloc hl _
  have F1 : FL (w.alloc (.cells #[.int .i64 0, .int .i64 0, .int .i64 0] 33)) w.heap.size 0 0 0 := Blk.new _ _ _
  have T1 : Turn [p, g] w (w.alloc (.cells #[.int .i64 0, .int .i64 0, .int .i64 0] 33)) := (Turn.refl _ _).alloc _
  have HO := Lib.hid o
  have HOK := Lib.hid ok
  have HW := Lib.hid hw
  have HY := Lib.hid hy
  have hal := o.at_
  have HS1 := Lib.hid S1
  have HL1 := Lib.hid L1
  clear h hl S1 L1 ok hw hy o
  go_enter Tryz.func51, Tryz.ntmps51
  go_wp2_with (first
    | (go_at_call 52; refine (srcAt_at HS1.out).mono ?_; rintro e w9 ⟨rfl, rfl⟩)
    | (go_at_call 69; refine (srcU8_spent HS1.out HL1.out HOK.out HW.out).mono ?_; rintro e w1 ⟨rfl, s1, l1, t01⟩; have t1 := T1.trans t01; have f1 : FL w1 w.heap.size 0 0 0 := FL.turn F1 t01 (not_two (by omega) (by omega)); have c0 := FL.c0 f1; have c1 := FL.c1 f1; have c2 := FL.c2 f1; have z0 := Blk.frozen f1 0; have z1 := Blk.frozen f1 1; have z2 := Blk.frozen f1 2; have b3 := Blk.lt f1)
    | (go_at_call 43; refine (srcFault_spent 3 s1 l1 HY.out).mono ?_; rintro e w4 ⟨rfl, b4⟩; have t04 : Turn [p, g] _ w4 := Turn.of_below b4; have t4 := t1.trans t04; have s4 := Blk.below s1 b4 (Blk.lt s1); have l4 := Blk.below l1 b4 (Blk.lt l1); have f4 : FL w4 w.heap.size 0 0 0 := Blk.below f1 b4 (Blk.lt f1); clear c0 c1 c2 z0 z1 z2 b3; have c0 := FL.c0 f4; have c1 := FL.c1 f4; have c2 := FL.c2 f4; have z0 := Blk.frozen f4 0; have z1 := Blk.frozen f4 1; have z2 := Blk.frozen f4 2; have b3 := Blk.lt f4))
  have fz := FL.store (k' := 4) (f' := 3) (a' := (a : Int)) f4
  have sz := SrcAt.set3 (u := .int .i64 4) (v := .int .i64 3) (x := .int .i64 (a : Int)) s4 (show p ≠ w.heap.size by omega)
  have lz := LedAt.set3 (u := .int .i64 4) (v := .int .i64 3) (x := .int .i64 (a : Int)) l4 (show g ≠ w.heap.size by omega)
  have tz := Turn.set3 (b := w.heap.size) (u := .int .i64 4) (v := .int .i64 3) (x := .int .i64 (a : Int)) t4 (.inr (Nat.le_refl _))
  generalize (((w4.setCell ⟨w.heap.size, 0, none⟩ (.int .i64 4)).setCell ⟨w.heap.size, 1, none⟩ (.int .i64 3)).setCell ⟨w.heap.size, 2, none⟩ (.int .i64 (a : Int))) = we at fz sz lz tz ⊢
  have e0 := fz.c0
  have e1 := fz.c1
  have e2 := fz.c2
  exact bodyPost_ret (v := .agg #[.int .i64 4, .int .i64 3, .int .i64 (a : Int)]) (by simp [results, Tryz.results51, go_sem, e0, e1, e2]) rfl ⟨rfl, lz, tz⟩
set_option maxRecDepth 100000 in
set_option maxHeartbeats 1000000 in
theorem oneW {w : World} {p g a : Nat} {s : ByteArray} {x y : Led} (h : SrcAt w p g s 0 s.size a) (o : SrcOk s 0 s.size a) (hl : LedAt w g x) (ok : x.Ok) (hw : x.work 1 = (y, true)) (hy : y.reason = 0) (hz : a < s.size) (hb : isBlank (bat s a) = false) :
    Calls Tryz.prog 51 #[.pointer (some ⟨p, 0, none⟩)] w fun e w' => e = .returned (.agg #[.int .i64 2, .int .i64 3, .int .i64 (a : Int)]) ∧ LedAt w' g y ∧ Turn [p, g] w w' := by
  have hpl := Blk.lt h
  have hgl := Blk.lt hl
  have hpg := h.ne hl
  have S1 : SrcAt (w.alloc (.cells #[.int .i64 0, .int .i64 0, .int .i64 0] 33)) p g s 0 s.size a := Blk.alloc h _
  have L1 : LedAt (w.alloc (.cells #[.int .i64 0, .int .i64 0, .int .i64 0] 33)) g x := Blk.alloc hl _
  have F1 : FL (w.alloc (.cells #[.int .i64 0, .int .i64 0, .int .i64 0] 33)) w.heap.size 0 0 0 := Blk.new _ _ _
  have T1 : Turn [p, g] w (w.alloc (.cells #[.int .i64 0, .int .i64 0, .int .i64 0] 33)) := (Turn.refl _ _).alloc _
  have HO := Lib.hid o
  have HOK := Lib.hid ok
  have HW := Lib.hid hw
  have HY := Lib.hid hy
  have hal := o.at_
  have HS1 := Lib.hid S1
  have HL1 := Lib.hid L1
  clear h hl S1 L1 ok hw hy o
  go_enter Tryz.func51, Tryz.ntmps51
  go_wp2_with (first
    | (go_at_call 52; refine (srcAt_at HS1.out).mono ?_; rintro e w9 ⟨rfl, rfl⟩)
    | (go_at_call 69; refine (srcU8_yes HS1.out HO.out HL1.out HOK.out HW.out hz).mono ?_; rintro e w1 ⟨rfl, s1, l1, t01⟩; have t1 := T1.trans t01; have f1 : FL w1 w.heap.size 0 0 0 := FL.turn F1 t01 (not_two (by omega) (by omega)); have c0 := FL.c0 f1; have c1 := FL.c1 f1; have c2 := FL.c2 f1; have z0 := Blk.frozen f1 0; have z1 := Blk.frozen f1 1; have z2 := Blk.frozen f1 2; have b3 := Blk.lt f1)
    | (go_at_call 72; refine (blank_any (bat s a) _).mono ?_; rintro e w2 ⟨rfl, rfl⟩; rw [hb])
    | (go_at_call 73; refine (wrong_any _ _).mono ?_; rintro e w4 ⟨rfl, b4⟩; have t04 : Turn [p, g] _ w4 := Turn.of_below b4; have t4 := t1.trans t04; have s4 := Blk.below s1 b4 (Blk.lt s1); have l4 := Blk.below l1 b4 (Blk.lt l1); have f4 : FL w4 w.heap.size 0 0 0 := Blk.below f1 b4 (Blk.lt f1); clear c0 c1 c2 z0 z1 z2 b3; have c0 := FL.c0 f4; have c1 := FL.c1 f4; have c2 := FL.c2 f4; have z0 := Blk.frozen f4 0; have z1 := Blk.frozen f4 1; have z2 := Blk.frozen f4 2; have b3 := Blk.lt f4))
  have fz := FL.store (k' := 2) (f' := 3) (a' := (a : Int)) f4
  have sz := SrcAt.set3 (u := .int .i64 2) (v := .int .i64 3) (x := .int .i64 (a : Int)) s4 (show p ≠ w.heap.size by omega)
  have lz := LedAt.set3 (u := .int .i64 2) (v := .int .i64 3) (x := .int .i64 (a : Int)) l4 (show g ≠ w.heap.size by omega)
  have tz := Turn.set3 (b := w.heap.size) (u := .int .i64 2) (v := .int .i64 3) (x := .int .i64 (a : Int)) t4 (.inr (Nat.le_refl _))
  generalize (((w4.setCell ⟨w.heap.size, 0, none⟩ (.int .i64 2)).setCell ⟨w.heap.size, 1, none⟩ (.int .i64 3)).setCell ⟨w.heap.size, 2, none⟩ (.int .i64 (a : Int))) = we at fz sz lz tz ⊢
  have e0 := fz.c0
  have e1 := fz.c1
  have e2 := fz.c2
  exact bodyPost_ret (v := .agg #[.int .i64 2, .int .i64 3, .int .i64 (a : Int)]) (by simp [results, Tryz.results51, go_sem, e0, e1, e2]) rfl ⟨rfl, lz, tz⟩
set_option maxRecDepth 100000 in
set_option maxHeartbeats 1000000 in
theorem oneY {w : World} {p g a : Nat} {s : ByteArray} {x y : Led} (h : SrcAt w p g s 0 s.size a) (o : SrcOk s 0 s.size a) (hl : LedAt w g x) (ok : x.Ok) (hw : x.work 1 = (y, true)) (hy : y.reason = 0) (hz : a < s.size) (hb : isBlank (bat s a) = true) :
    Calls Tryz.prog 51 #[.pointer (some ⟨p, 0, none⟩)] w fun e w' => e = .returned (.agg #[.int .i64 0, .int .i64 0, .int .i64 0]) ∧ SrcAt w' p g s 0 s.size (a + 1) ∧ LedAt w' g y ∧ Turn [p, g] w w' := by
  have hpl := Blk.lt h
  have hgl := Blk.lt hl
  have hpg := h.ne hl
  have S1 : SrcAt (w.alloc (.cells #[.int .i64 0, .int .i64 0, .int .i64 0] 33)) p g s 0 s.size a := Blk.alloc h _
  have L1 : LedAt (w.alloc (.cells #[.int .i64 0, .int .i64 0, .int .i64 0] 33)) g x := Blk.alloc hl _
  have F1 : FL (w.alloc (.cells #[.int .i64 0, .int .i64 0, .int .i64 0] 33)) w.heap.size 0 0 0 := Blk.new _ _ _
  have T1 : Turn [p, g] w (w.alloc (.cells #[.int .i64 0, .int .i64 0, .int .i64 0] 33)) := (Turn.refl _ _).alloc _
  have HO := Lib.hid o
  have HOK := Lib.hid ok
  have HW := Lib.hid hw
  have HY := Lib.hid hy
  have hal := o.at_
  have HS1 := Lib.hid S1
  have HL1 := Lib.hid L1
  clear h hl S1 L1 ok hw hy o
  go_enter Tryz.func51, Tryz.ntmps51
  go_wp2_with (first
    | (go_at_call 52; refine (srcAt_at HS1.out).mono ?_; rintro e w9 ⟨rfl, rfl⟩)
    | (go_at_call 69; refine (srcU8_yes HS1.out HO.out HL1.out HOK.out HW.out hz).mono ?_; rintro e w1 ⟨rfl, s1, l1, t01⟩; have t1 := T1.trans t01; have f1 : FL w1 w.heap.size 0 0 0 := FL.turn F1 t01 (not_two (by omega) (by omega)); have c0 := FL.c0 f1; have c1 := FL.c1 f1; have c2 := FL.c2 f1; have z0 := Blk.frozen f1 0; have z1 := Blk.frozen f1 1; have z2 := Blk.frozen f1 2; have b3 := Blk.lt f1)
    | (go_at_call 72; refine (blank_any (bat s a) _).mono ?_; rintro e w2 ⟨rfl, rfl⟩; rw [hb]))
  have fz := FL.store (k' := 0) (f' := 0) (a' := 0) f1
  have sz := SrcAt.set3 (u := .int .i64 0) (v := .int .i64 0) (x := .int .i64 0) s1 (show p ≠ w.heap.size by omega)
  have lz := LedAt.set3 (u := .int .i64 0) (v := .int .i64 0) (x := .int .i64 0) l1 (show g ≠ w.heap.size by omega)
  have tz := Turn.set3 (b := w.heap.size) (u := .int .i64 0) (v := .int .i64 0) (x := .int .i64 0) t1 (.inr (Nat.le_refl _))
  generalize (((w1.setCell ⟨w.heap.size, 0, none⟩ (.int .i64 0)).setCell ⟨w.heap.size, 1, none⟩ (.int .i64 0)).setCell ⟨w.heap.size, 2, none⟩ (.int .i64 0)) = we at fz sz lz tz ⊢
  have e0 := fz.c0
  have e1 := fz.c1
  have e2 := fz.c2
  exact bodyPost_ret (v := .agg #[.int .i64 0, .int .i64 0, .int .i64 0]) (by simp [results, Tryz.results51, go_sem, e0, e1, e2]) rfl ⟨rfl, sz, lz, tz⟩
set_option maxRecDepth 100000 in
set_option maxHeartbeats 1000000 in
theorem pnumB {w : World} {p g : Nat} {s : ByteArray} {a most above kd pl V f n : Nat} {x y : Led} (h : SrcAt w p g s 0 s.size a) (hl : LedAt w g x) (hm : most ≤ 100000) (hab : above ≤ 4) (HN0 : ∀ w : World, SrcAt w p g s 0 s.size a → LedAt w g x → Calls Tryz.prog 71 #[.pointer (some ⟨p, 0, none⟩)] w fun e w' => e = .returned (.tuple #[.int .i64 0, .int .i64 0, .agg #[.int .i64 (kd : Int), .int .i64 3, .int .i64 (pl : Int)]]) ∧ LedAt w' g y ∧ Turn [p, g] w w') (hk : kd ≠ 0) :
    Calls Tryz.prog 49 #[.pointer (some ⟨p, 0, none⟩), .int .i64 (most : Int), .int .i64 (above : Int)] w fun e w' => e = .returned (.tuple #[.int .i64 0, .agg #[.int .i64 (kd : Int), .int .i64 3, .int .i64 (pl : Int)]]) ∧ LedAt w' g y ∧ Turn [p, g] w w' := by
  have hpl := Blk.lt h
  have hgl := Blk.lt hl
  have hpg := h.ne hl
  have HS0 : SrcAt (w.alloc (.cells #[.int .i64 0, .int .i64 0, .int .i64 0] 33)) p g s 0 s.size a := Blk.alloc h _
  have HL0 : LedAt (w.alloc (.cells #[.int .i64 0, .int .i64 0, .int .i64 0] 33)) g x := Blk.alloc hl _
  have F1 : FL (w.alloc (.cells #[.int .i64 0, .int .i64 0, .int .i64 0] 33)) w.heap.size 0 0 0 := Blk.new _ _ _
  have T1 : Turn [p, g] w (w.alloc (.cells #[.int .i64 0, .int .i64 0, .int .i64 0] 33)) := (Turn.refl _ _).alloc _
  have HN := Lib.hid (HN0 _ HS0 HL0)
  have hki : ¬ (kd : Int) = 0 := by omega
  clear h hl HS0 HL0 HN0
  go_enter Tryz.func49, Tryz.ntmps49
  go_wp2_with (first
    | (go_at_call 71; refine HN.out.mono ?_; rintro e w2 ⟨rfl, l2, t02⟩; have t2 := T1.trans t02; have f2 : FL w2 w.heap.size 0 0 0 := FL.turn F1 t02 (not_two (by omega) (by omega)); have c0 := FL.c0 f2; have c1 := FL.c1 f2; have c2 := FL.c2 f2; have z0 := Blk.frozen f2 0; have z1 := Blk.frozen f2 1; have z2 := Blk.frozen f2 2; have b3 := Blk.lt f2))
  go_region
  all_goals go_wp2_with fail
  have fz := FL.store (k' := (kd : Int)) (f' := 3) (a' := (pl : Int)) f2
  have lz := LedAt.set3 (u := .int .i64 (kd : Int)) (v := .int .i64 3) (x := .int .i64 (pl : Int)) l2 (show g ≠ w.heap.size by omega)
  have tz := Turn.set3 (b := w.heap.size) (u := .int .i64 (kd : Int)) (v := .int .i64 3) (x := .int .i64 (pl : Int)) t2 (.inr (Nat.le_refl _))
  have fz := Blk.alloc fz (.cells #[.int .i64 (kd : Int), .int .i64 3, .int .i64 (pl : Int)] 33)
  have lz := Blk.alloc lz (.cells #[.int .i64 (kd : Int), .int .i64 3, .int .i64 (pl : Int)] 33)
  have tz := Turn.alloc tz (.cells #[.int .i64 (kd : Int), .int .i64 3, .int .i64 (pl : Int)] 33)
  replace fz := Blk.drew fz
  replace lz := Blk.drew lz
  replace tz := Turn.drew tz
  generalize ((((w2.setCell ⟨w.heap.size, 0, none⟩ (.int .i64 (kd : Int))).setCell ⟨w.heap.size, 1, none⟩ (.int .i64 3)).setCell ⟨w.heap.size, 2, none⟩ (.int .i64 (pl : Int))).alloc (.cells #[.int .i64 (kd : Int), .int .i64 3, .int .i64 (pl : Int)] 33)).drew = we at fz lz tz ⊢
  have e0 := FL.c0 fz
  have e1 := FL.c1 fz
  have e2 := FL.c2 fz
  exact bodyPost_ret (v := .tuple #[.int .i64 0, .agg #[.int .i64 (kd : Int), .int .i64 3, .int .i64 (pl : Int)]]) (by simp [results, Tryz.results49, go_sem, e0, e1, e2]) rfl ⟨rfl, lz, tz⟩
set_option maxRecDepth 100000 in
set_option maxHeartbeats 1000000 in
theorem pnumZ {w : World} {p g : Nat} {s : ByteArray} {a most above kd pl V f n : Nat} {x y : Led} (h : SrcAt w p g s 0 s.size a) (hl : LedAt w g x) (hm : most ≤ 100000) (hab : above ≤ 4) (HN0 : ∀ w : World, SrcAt w p g s 0 s.size a → LedAt w g x → Calls Tryz.prog 71 #[.pointer (some ⟨p, 0, none⟩)] w fun e w' => e = .returned (.tuple #[.int .i64 (0 : Int), .int .i64 (f : Int), .agg #[.int .i64 0, .int .i64 0, .int .i64 0]]) ∧ SrcAt w' p g s 0 s.size n ∧ LedAt w' g y ∧ Turn [p, g] w w') :
    Calls Tryz.prog 49 #[.pointer (some ⟨p, 0, none⟩), .int .i64 (most : Int), .int .i64 (above : Int)] w fun e w' => e = .returned (.tuple #[.int .i64 0, .agg #[.int .i64 2, .int .i64 3, .int .i64 (f : Int)]]) ∧ LedAt w' g y ∧ Turn [p, g] w w' := by
  have hpl := Blk.lt h
  have hgl := Blk.lt hl
  have hpg := h.ne hl
  have HS0 : SrcAt (w.alloc (.cells #[.int .i64 0, .int .i64 0, .int .i64 0] 33)) p g s 0 s.size a := Blk.alloc h _
  have HL0 : LedAt (w.alloc (.cells #[.int .i64 0, .int .i64 0, .int .i64 0] 33)) g x := Blk.alloc hl _
  have F1 : FL (w.alloc (.cells #[.int .i64 0, .int .i64 0, .int .i64 0] 33)) w.heap.size 0 0 0 := Blk.new _ _ _
  have T1 : Turn [p, g] w (w.alloc (.cells #[.int .i64 0, .int .i64 0, .int .i64 0] 33)) := (Turn.refl _ _).alloc _
  have HN := Lib.hid (HN0 _ HS0 HL0)
  clear h hl HS0 HL0 HN0
  go_enter Tryz.func49, Tryz.ntmps49
  go_wp2_with (first
    | (go_at_call 71; refine HN.out.mono ?_; rintro e w2 ⟨rfl, s2, l2, t02⟩; have t2 := T1.trans t02; have f2 : FL w2 w.heap.size 0 0 0 := FL.turn F1 t02 (not_two (by omega) (by omega)); have c0 := FL.c0 f2; have c1 := FL.c1 f2; have c2 := FL.c2 f2; have z0 := Blk.frozen f2 0; have z1 := Blk.frozen f2 1; have z2 := Blk.frozen f2 2; have b3 := Blk.lt f2)
    | (go_at_call 70; refine (pbad_any 2 (f : Int) _).mono ?_; rintro e w4 ⟨rfl, b4⟩; have b40 := below_box b4; have t4 := t2.trans (Turn.of_below (S := [p, g]) b40); have l4 := Blk.below l2 b40 (Blk.lt l2); have f4 : FL w4 w.heap.size 0 0 0 := Blk.below f2 b40 (Blk.lt f2); clear c0 c1 c2 z0 z1 z2 b3; have c0 := FL.c0 f4; have c1 := FL.c1 f4; have c2 := FL.c2 f4; have z0 := Blk.frozen f4 0; have z1 := Blk.frozen f4 1; have z2 := Blk.frozen f4 2; have b3 := Blk.lt f4))
  have fz := FL.store (k' := 2) (f' := 3) (a' := (f : Int)) f4
  have lz := LedAt.set3 (u := .int .i64 2) (v := .int .i64 3) (x := .int .i64 (f : Int)) l4 (show g ≠ w.heap.size by omega)
  have tz := Turn.set3 (b := w.heap.size) (u := .int .i64 2) (v := .int .i64 3) (x := .int .i64 (f : Int)) t4 (.inr (Nat.le_refl _))
  generalize (((w4.setCell ⟨w.heap.size, 0, none⟩ (.int .i64 2)).setCell ⟨w.heap.size, 1, none⟩ (.int .i64 3)).setCell ⟨w.heap.size, 2, none⟩ (.int .i64 (f : Int))) = we at fz lz tz ⊢
  have e0 := FL.c0 fz
  have e1 := FL.c1 fz
  have e2 := FL.c2 fz
  exact bodyPost_ret (v := .tuple #[.int .i64 0, .agg #[.int .i64 2, .int .i64 3, .int .i64 (f : Int)]]) (by simp [results, Tryz.results49, go_sem, e0, e1, e2]) rfl ⟨rfl, lz, tz⟩
set_option maxRecDepth 100000 in
set_option maxHeartbeats 1000000 in
theorem pnumA {w : World} {p g : Nat} {s : ByteArray} {a most above kd pl V f n : Nat} {x y : Led} (h : SrcAt w p g s 0 s.size a) (hl : LedAt w g x) (hm : most ≤ 100000) (hab : above ≤ 4) (HN0 : ∀ w : World, SrcAt w p g s 0 s.size a → LedAt w g x → Calls Tryz.prog 71 #[.pointer (some ⟨p, 0, none⟩)] w fun e w' => e = .returned (.tuple #[.int .i64 (V : Int), .int .i64 (f : Int), .agg #[.int .i64 0, .int .i64 0, .int .i64 0]]) ∧ SrcAt w' p g s 0 s.size n ∧ LedAt w' g y ∧ Turn [p, g] w w') (hV : V ≠ 0) (hmV : most < V) :
    Calls Tryz.prog 49 #[.pointer (some ⟨p, 0, none⟩), .int .i64 (most : Int), .int .i64 (above : Int)] w fun e w' => e = .returned (.tuple #[.int .i64 0, .agg #[.int .i64 (above : Int), .int .i64 3, .int .i64 (f : Int)]]) ∧ LedAt w' g y ∧ Turn [p, g] w w' := by
  have hpl := Blk.lt h
  have hgl := Blk.lt hl
  have hpg := h.ne hl
  have HS0 : SrcAt (w.alloc (.cells #[.int .i64 0, .int .i64 0, .int .i64 0] 33)) p g s 0 s.size a := Blk.alloc h _
  have HL0 : LedAt (w.alloc (.cells #[.int .i64 0, .int .i64 0, .int .i64 0] 33)) g x := Blk.alloc hl _
  have F1 : FL (w.alloc (.cells #[.int .i64 0, .int .i64 0, .int .i64 0] 33)) w.heap.size 0 0 0 := Blk.new _ _ _
  have T1 : Turn [p, g] w (w.alloc (.cells #[.int .i64 0, .int .i64 0, .int .i64 0] 33)) := (Turn.refl _ _).alloc _
  have HN := Lib.hid (HN0 _ HS0 HL0)
  have hVi : ¬ (V : Int) = 0 := by omega
  have hmi : (most : Int) < (V : Int) := by omega
  clear h hl HS0 HL0 HN0
  go_enter Tryz.func49, Tryz.ntmps49
  go_wp2_with (first
    | (go_at_call 71; refine HN.out.mono ?_; rintro e w2 ⟨rfl, s2, l2, t02⟩; have t2 := T1.trans t02; have f2 : FL w2 w.heap.size 0 0 0 := FL.turn F1 t02 (not_two (by omega) (by omega)); have c0 := FL.c0 f2; have c1 := FL.c1 f2; have c2 := FL.c2 f2; have z0 := Blk.frozen f2 0; have z1 := Blk.frozen f2 1; have z2 := Blk.frozen f2 2; have b3 := Blk.lt f2)
    | (go_at_call 70; refine (pbad_any (above : Int) (f : Int) _).mono ?_; rintro e w4 ⟨rfl, b4⟩; have b40 := below_box b4; have t4 := t2.trans (Turn.of_below (S := [p, g]) b40); have l4 := Blk.below l2 b40 (Blk.lt l2); have f4 : FL w4 w.heap.size 0 0 0 := Blk.below f2 b40 (Blk.lt f2); clear c0 c1 c2 z0 z1 z2 b3; have c0 := FL.c0 f4; have c1 := FL.c1 f4; have c2 := FL.c2 f4; have z0 := Blk.frozen f4 0; have z1 := Blk.frozen f4 1; have z2 := Blk.frozen f4 2; have b3 := Blk.lt f4))
  have fz := FL.store (k' := (above : Int)) (f' := 3) (a' := (f : Int)) f4
  have lz := LedAt.set3 (u := .int .i64 (above : Int)) (v := .int .i64 3) (x := .int .i64 (f : Int)) l4 (show g ≠ w.heap.size by omega)
  have tz := Turn.set3 (b := w.heap.size) (u := .int .i64 (above : Int)) (v := .int .i64 3) (x := .int .i64 (f : Int)) t4 (.inr (Nat.le_refl _))
  generalize (((w4.setCell ⟨w.heap.size, 0, none⟩ (.int .i64 (above : Int))).setCell ⟨w.heap.size, 1, none⟩ (.int .i64 3)).setCell ⟨w.heap.size, 2, none⟩ (.int .i64 (f : Int))) = we at fz lz tz ⊢
  have e0 := FL.c0 fz
  have e1 := FL.c1 fz
  have e2 := FL.c2 fz
  exact bodyPost_ret (v := .tuple #[.int .i64 0, .agg #[.int .i64 (above : Int), .int .i64 3, .int .i64 (f : Int)]]) (by simp [results, Tryz.results49, go_sem, e0, e1, e2]) rfl ⟨rfl, lz, tz⟩
set_option maxRecDepth 100000 in
set_option maxHeartbeats 1000000 in
theorem pnumO {w : World} {p g : Nat} {s : ByteArray} {a most above kd pl V f n : Nat} {x y : Led} (h : SrcAt w p g s 0 s.size a) (hl : LedAt w g x) (hm : most ≤ 100000) (hab : above ≤ 4) (HN0 : ∀ w : World, SrcAt w p g s 0 s.size a → LedAt w g x → Calls Tryz.prog 71 #[.pointer (some ⟨p, 0, none⟩)] w fun e w' => e = .returned (.tuple #[.int .i64 (V : Int), .int .i64 (f : Int), .agg #[.int .i64 0, .int .i64 0, .int .i64 0]]) ∧ SrcAt w' p g s 0 s.size n ∧ LedAt w' g y ∧ Turn [p, g] w w') (hV : V ≠ 0) (hmV : V ≤ most) :
    Calls Tryz.prog 49 #[.pointer (some ⟨p, 0, none⟩), .int .i64 (most : Int), .int .i64 (above : Int)] w fun e w' => e = .returned (.tuple #[.int .i64 (V : Int), .agg #[.int .i64 0, .int .i64 0, .int .i64 0]]) ∧ SrcAt w' p g s 0 s.size n ∧ LedAt w' g y ∧ Turn [p, g] w w' := by
  have hpl := Blk.lt h
  have hgl := Blk.lt hl
  have hpg := h.ne hl
  have HS0 : SrcAt (w.alloc (.cells #[.int .i64 0, .int .i64 0, .int .i64 0] 33)) p g s 0 s.size a := Blk.alloc h _
  have HL0 : LedAt (w.alloc (.cells #[.int .i64 0, .int .i64 0, .int .i64 0] 33)) g x := Blk.alloc hl _
  have F1 : FL (w.alloc (.cells #[.int .i64 0, .int .i64 0, .int .i64 0] 33)) w.heap.size 0 0 0 := Blk.new _ _ _
  have T1 : Turn [p, g] w (w.alloc (.cells #[.int .i64 0, .int .i64 0, .int .i64 0] 33)) := (Turn.refl _ _).alloc _
  have HN := Lib.hid (HN0 _ HS0 HL0)
  have hVi : ¬ (V : Int) = 0 := by omega
  have hmi : ¬ (most : Int) < (V : Int) := by omega
  clear h hl HS0 HL0 HN0
  go_enter Tryz.func49, Tryz.ntmps49
  go_wp2_with (first
    | (go_at_call 71; refine HN.out.mono ?_; rintro e w2 ⟨rfl, s2, l2, t02⟩; have t2 := T1.trans t02; have f2 : FL w2 w.heap.size 0 0 0 := FL.turn F1 t02 (not_two (by omega) (by omega)); have c0 := FL.c0 f2; have c1 := FL.c1 f2; have c2 := FL.c2 f2; have z0 := Blk.frozen f2 0; have z1 := Blk.frozen f2 1; have z2 := Blk.frozen f2 2; have b3 := Blk.lt f2))
  have sz := SrcAt.set3 (u := .int .i64 0) (v := .int .i64 0) (x := .int .i64 0) s2 (show p ≠ w.heap.size by omega)
  have fz := FL.store (k' := 0) (f' := 0) (a' := 0) f2
  have lz := LedAt.set3 (u := .int .i64 0) (v := .int .i64 0) (x := .int .i64 0) l2 (show g ≠ w.heap.size by omega)
  have tz := Turn.set3 (b := w.heap.size) (u := .int .i64 0) (v := .int .i64 0) (x := .int .i64 0) t2 (.inr (Nat.le_refl _))
  have fz := Blk.alloc fz (.cells #[.int .i64 0, .int .i64 0, .int .i64 0] 33)
  have lz := Blk.alloc lz (.cells #[.int .i64 0, .int .i64 0, .int .i64 0] 33)
  have tz := Turn.alloc tz (.cells #[.int .i64 0, .int .i64 0, .int .i64 0] 33)
  have sz := Blk.alloc sz (.cells #[.int .i64 0, .int .i64 0, .int .i64 0] 33)
  generalize ((((w2.setCell ⟨w.heap.size, 0, none⟩ (.int .i64 0)).setCell ⟨w.heap.size, 1, none⟩ (.int .i64 0)).setCell ⟨w.heap.size, 2, none⟩ (.int .i64 0)).alloc (.cells #[.int .i64 0, .int .i64 0, .int .i64 0] 33)) = we at sz fz lz tz ⊢
  have e0 := FL.c0 fz
  have e1 := FL.c1 fz
  have e2 := FL.c2 fz
  exact bodyPost_ret (v := .tuple #[.int .i64 (V : Int), .agg #[.int .i64 0, .int .i64 0, .int .i64 0]]) (by simp [results, Tryz.results49, go_sem, e0, e1, e2]) rfl ⟨rfl, sz, lz, tz⟩
end Go.Proofs.YthljhebbblhakaaGreatDoor
