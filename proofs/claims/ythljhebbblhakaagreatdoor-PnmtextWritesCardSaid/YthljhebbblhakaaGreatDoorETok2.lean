/- The reader of tokens: first. -/
import Derived.Test.YthljhebbblhakaaGreatDoorETok
namespace Go.Proofs.YthljhebbblhakaaGreatDoor
open Go.RowKit
set_option linter.unusedVariables false
set_option linter.unusedSimpArgs false

set_option maxRecDepth 100000 in
set_option maxHeartbeats 1000000 in
theorem tokFirst_yes {w : World} {p g : Nat} {s : ByteArray} {a k c : Nat} {x : Led} (h : SrcAt w p g s 0 s.size a) (o : SrcOk s 0 s.size a) (hl : LedAt w g (x.used k)) (hx : x.reason = 0) (ok : x.Ok) (hc : overN false ((nats s).drop a) = c) (hs : x.steps + k + c + 2 ≤ x.S) (hf : a + c < s.size) :
    Calls Tryz.prog 96 #[.pointer (some ⟨p, 0, none⟩)] w fun e w' => e = .returned (.tuple #[.int .i64 (bat s (a + c) : Int), .int .i64 ((a + c : Nat) : Int), .agg #[.int .i64 0, .int .i64 0, .int .i64 0]]) ∧ SrcAt w' p g s 0 s.size (a + c + 1) ∧ LedAt w' g (x.used (k + c + 2)) ∧ Turn [p, g] w w' := by
  have hpl := Blk.lt h
  have hgl := Blk.lt hl
  have hpg := h.ne hl
  have hal := o.at_
  have hsm := o.sm
  have S1 : SrcAt (w.alloc (.cells #[.int .i64 0, .int .i64 0, .int .i64 0] 33)) p g s 0 s.size a := Blk.alloc h _
  have L1 : LedAt (w.alloc (.cells #[.int .i64 0, .int .i64 0, .int .i64 0] 33)) g (x.used k) := Blk.alloc hl _
  have F1 : FL (w.alloc (.cells #[.int .i64 0, .int .i64 0, .int .i64 0] 33)) w.heap.size 0 0 0 := Blk.new _ _ _
  have T1 : Turn [p, g] w (w.alloc (.cells #[.int .i64 0, .int .i64 0, .int .i64 0] 33)) := (Turn.refl _ _).alloc _
  have HOV0 := tokOver_yes S1 o L1 hx ok (by rw [hc]; omega)
  rw [hc] at HOV0
  have HOV := Lib.hid HOV0
  have HO := Lib.hid (show SrcOk s 0 s.size (a + c) from ⟨by omega, by omega, Nat.le_refl _, hsm⟩)
  have HOK := Lib.hid (Led.used_ok (k := k + c + 1) ok (by omega))
  have HW := Lib.hid (Led.used_yes (k := k + c + 1) hx (by omega))
  clear h hl hx ok hs hc o HOV0 S1 L1
  go_enter Tryz.func96, Tryz.ntmps96
  go_wp2_with (first
    | (go_at_call 122; refine HOV.out.mono ?_; rintro e w1 ⟨rfl, s1, l1, t01⟩; have t1 := T1.trans t01; have f1 : FL w1 w.heap.size 0 0 0 := FL.turn F1 t01 (not_two (by omega) (by omega)); have c0 := FL.c0 f1; have c1 := FL.c1 f1; have c2 := FL.c2 f1; have z0 := Blk.frozen f1 0; have z1 := Blk.frozen f1 1; have z2 := Blk.frozen f1 2; have b3 := Blk.lt f1; have s2 := SrcAt.set3 (u := .int .i64 0) (v := .int .i64 0) (x := .int .i64 0) s1 (show p ≠ w.heap.size by omega); have l2 := LedAt.set3 (u := .int .i64 0) (v := .int .i64 0) (x := .int .i64 0) l1 (show g ≠ w.heap.size by omega); have f2 := FL.store (k' := 0) (f' := 0) (a' := 0) f1; have t2 := Turn.set3 (b := w.heap.size) (u := .int .i64 0) (v := .int .i64 0) (x := .int .i64 0) t1 (.inr (Nat.le_refl _)))
    | (go_at_call 52; refine (srcAt_at s2).mono ?_; rintro e w9 ⟨rfl, rfl⟩)
    | (go_at_call 69; refine (srcU8_yes s2 HO.out l2 HOK.out HW.out hf).mono ?_; rintro e w3 ⟨rfl, s3, l3, t03⟩; have t3 := t2.trans t03; have f3 := FL.turn f2 t03 (not_two (by omega) (by omega)); clear c0 c1 c2 z0 z1 z2 b3; have c0 := FL.c0 f3; have c1 := FL.c1 f3; have c2 := FL.c2 f3; have z0 := Blk.frozen f3 0; have z1 := Blk.frozen f3 1; have z2 := Blk.frozen f3 2; have b3 := Blk.lt f3))
  have fz := FL.store (k' := 0) (f' := 0) (a' := 0) f3
  have sz := SrcAt.set3 (u := .int .i64 0) (v := .int .i64 0) (x := .int .i64 0) s3 (show p ≠ w.heap.size by omega)
  have lz := LedAt.set3 (u := .int .i64 0) (v := .int .i64 0) (x := .int .i64 0) l3 (show g ≠ w.heap.size by omega)
  have tz := Turn.set3 (b := w.heap.size) (u := .int .i64 0) (v := .int .i64 0) (x := .int .i64 0) t3 (.inr (Nat.le_refl _))
  generalize (((w3.setCell ⟨w.heap.size, 0, none⟩ (.int .i64 0)).setCell ⟨w.heap.size, 1, none⟩ (.int .i64 0)).setCell ⟨w.heap.size, 2, none⟩ (.int .i64 0)) = we at fz sz lz tz ⊢
  have e0 := fz.c0
  have e1 := fz.c1
  have e2 := fz.c2
  exact bodyPost_ret (v := .tuple #[.int .i64 (bat s (a + c) : Int), .int .i64 ((a + c : Nat) : Int), .agg #[.int .i64 0, .int .i64 0, .int .i64 0]]) (by simp [results, Tryz.results96, go_sem, e0, e1, e2]) rfl ⟨rfl, sz, lz, tz⟩

set_option maxRecDepth 100000 in
set_option maxHeartbeats 1000000 in
theorem tokFirst_end {w : World} {p g : Nat} {s : ByteArray} {a k c : Nat} {x : Led} (h : SrcAt w p g s 0 s.size a) (o : SrcOk s 0 s.size a) (hl : LedAt w g (x.used k)) (hx : x.reason = 0) (ok : x.Ok) (hc : overN false ((nats s).drop a) = c) (hs : x.steps + k + c + 2 ≤ x.S) (hf : a + c = s.size) :
    Calls Tryz.prog 96 #[.pointer (some ⟨p, 0, none⟩)] w fun e w' => e = .returned (.tuple #[.int .i64 0, .int .i64 0, .agg #[.int .i64 1, .int .i64 3, .int .i64 (s.size : Int)]]) ∧ SrcAt w' p g s 0 s.size s.size ∧ LedAt w' g (x.used (k + c + 2)) ∧ Turn [p, g] w w' := by
  have hpl := Blk.lt h
  have hgl := Blk.lt hl
  have hpg := h.ne hl
  have hal := o.at_
  have hsm := o.sm
  have S1 : SrcAt (w.alloc (.cells #[.int .i64 0, .int .i64 0, .int .i64 0] 33)) p g s 0 s.size a := Blk.alloc h _
  have L1 : LedAt (w.alloc (.cells #[.int .i64 0, .int .i64 0, .int .i64 0] 33)) g (x.used k) := Blk.alloc hl _
  have F1 : FL (w.alloc (.cells #[.int .i64 0, .int .i64 0, .int .i64 0] 33)) w.heap.size 0 0 0 := Blk.new _ _ _
  have T1 : Turn [p, g] w (w.alloc (.cells #[.int .i64 0, .int .i64 0, .int .i64 0] 33)) := (Turn.refl _ _).alloc _
  have HOV0 := tokOver_yes S1 o L1 hx ok (by rw [hc]; omega)
  rw [hc, hf] at HOV0
  have HOV := Lib.hid HOV0
  have HO := Lib.hid (show SrcOk s 0 s.size s.size from ⟨by omega, by omega, Nat.le_refl _, hsm⟩)
  have HOK := Lib.hid (Led.used_ok (k := k + c + 1) ok (by omega))
  have HW := Lib.hid (Led.used_yes (k := k + c + 1) hx (by omega))
  have HX := Lib.hid (show (x.used (k + c + 1 + 1)).reason = 0 from hx)
  have hnl : ¬ s.size < s.size := by omega
  clear h hl hx ok hs hc o HOV0 S1 L1
  go_enter Tryz.func96, Tryz.ntmps96
  go_wp2_with (first
    | (go_at_call 122; refine HOV.out.mono ?_; rintro e w1 ⟨rfl, s1, l1, t01⟩; have t1 := T1.trans t01; have f1 : FL w1 w.heap.size 0 0 0 := FL.turn F1 t01 (not_two (by omega) (by omega)); have c0 := FL.c0 f1; have c1 := FL.c1 f1; have c2 := FL.c2 f1; have z0 := Blk.frozen f1 0; have z1 := Blk.frozen f1 1; have z2 := Blk.frozen f1 2; have b3 := Blk.lt f1; have s2 := SrcAt.set3 (u := .int .i64 0) (v := .int .i64 0) (x := .int .i64 0) s1 (show p ≠ w.heap.size by omega); have l2 := LedAt.set3 (u := .int .i64 0) (v := .int .i64 0) (x := .int .i64 0) l1 (show g ≠ w.heap.size by omega); have f2 := FL.store (k' := 0) (f' := 0) (a' := 0) f1; have t2 := Turn.set3 (b := w.heap.size) (u := .int .i64 0) (v := .int .i64 0) (x := .int .i64 0) t1 (.inr (Nat.le_refl _)))
    | (go_at_call 52; refine (srcAt_at s2).mono ?_; rintro e w9 ⟨rfl, rfl⟩)
    | (go_at_call 69; refine (srcU8_short s2 HO.out l2 HOK.out HW.out hnl).mono ?_; rintro e w3 ⟨rfl, s3, l3, t03⟩; have t3 := t2.trans t03; have f3 := FL.turn f2 t03 (not_two (by omega) (by omega)))
    | (go_at_call 43; refine (srcFault_short 3 s3 l3 HX.out).mono ?_; rintro e w4 ⟨rfl, b4⟩; have t04 : Turn [p, g] _ w4 := Turn.of_below b4; have t4 := t3.trans t04; have s4 := Blk.below s3 b4 (Blk.lt s3); have l4 := Blk.below l3 b4 (Blk.lt l3); have f4 : FL w4 w.heap.size 0 0 0 := Blk.below f3 b4 (Blk.lt f3); clear c0 c1 c2 z0 z1 z2 b3; have c0 := FL.c0 f4; have c1 := FL.c1 f4; have c2 := FL.c2 f4; have z0 := Blk.frozen f4 0; have z1 := Blk.frozen f4 1; have z2 := Blk.frozen f4 2; have b3 := Blk.lt f4))
  have fz := FL.store (k' := 1) (f' := 3) (a' := (s.size : Int)) f4
  have sz := SrcAt.set3 (u := .int .i64 1) (v := .int .i64 3) (x := .int .i64 (s.size : Int)) s4 (show p ≠ w.heap.size by omega)
  have lz := LedAt.set3 (u := .int .i64 1) (v := .int .i64 3) (x := .int .i64 (s.size : Int)) l4 (show g ≠ w.heap.size by omega)
  have tz := Turn.set3 (b := w.heap.size) (u := .int .i64 1) (v := .int .i64 3) (x := .int .i64 (s.size : Int)) t4 (.inr (Nat.le_refl _))
  generalize (((w4.setCell ⟨w.heap.size, 0, none⟩ (.int .i64 1)).setCell ⟨w.heap.size, 1, none⟩ (.int .i64 3)).setCell ⟨w.heap.size, 2, none⟩ (.int .i64 (s.size : Int))) = we at fz sz lz tz ⊢
  have e0 := fz.c0
  have e1 := fz.c1
  have e2 := fz.c2
  exact bodyPost_ret (v := .tuple #[.int .i64 0, .int .i64 0, .agg #[.int .i64 1, .int .i64 3, .int .i64 (s.size : Int)]]) (by simp [results, Tryz.results96, go_sem, e0, e1, e2]) rfl ⟨rfl, sz, lz, tz⟩

set_option maxRecDepth 100000 in
set_option maxHeartbeats 1000000 in
theorem tokFirst_spent {w : World} {p g : Nat} {s : ByteArray} {a k c r : Nat} {x : Led} (h : SrcAt w p g s 0 s.size a) (o : SrcOk s 0 s.size a) (hl : LedAt w g (x.used k)) (hx : x.reason = 0) (ok : x.Ok) (hc : overN false ((nats s).drop a) = c) (hs : x.steps + k + r = x.S) (hr : r < c + 2) :
    Calls Tryz.prog 96 #[.pointer (some ⟨p, 0, none⟩)] w fun e w' => ∃ z : Nat, (z ≤ s.size ∧ z = a + min r c) ∧ e = .returned (.tuple #[.int .i64 0, .int .i64 0, .agg #[.int .i64 4, .int .i64 3, .int .i64 (z : Int)]]) ∧ SrcAt w' p g s 0 s.size z ∧ LedAt w' g ((x.used (k + r)).refused 3 1) ∧ Turn [p, g] w w' := by
  have hpl := Blk.lt h
  have hgl := Blk.lt hl
  have hpg := h.ne hl
  have hal := o.at_
  have hsm := o.sm
  have S1 : SrcAt (w.alloc (.cells #[.int .i64 0, .int .i64 0, .int .i64 0] 33)) p g s 0 s.size a := Blk.alloc h _
  have L1 : LedAt (w.alloc (.cells #[.int .i64 0, .int .i64 0, .int .i64 0] 33)) g (x.used k) := Blk.alloc hl _
  have F1 : FL (w.alloc (.cells #[.int .i64 0, .int .i64 0, .int .i64 0] 33)) w.heap.size 0 0 0 := Blk.new _ _ _
  have T1 : Turn [p, g] w (w.alloc (.cells #[.int .i64 0, .int .i64 0, .int .i64 0] 33)) := (Turn.refl _ _).alloc _
  have hcl := overN_le false ((nats s).drop a)
  rw [hc, List.length_drop, nats_len] at hcl
  by_cases hrc : r ≤ c
  · have HOV0 := tokOver_spent S1 o L1 hx ok hs (by rw [hc]; exact hrc)
    obtain ⟨pz, hz⟩ : ∃ z : Nat, z = a + r := ⟨_, rfl⟩
    have HZE : Hid (pz = a + min r c) := Lib.hid (by omega)
    rw [← hz] at HOV0
    have HOV := Lib.hid HOV0
    clear h hl hx ok hs hc o S1 L1 HOV0 hz
    go_enter Tryz.func96, Tryz.ntmps96
    go_wp2_with (first
      | (go_at_call 122; refine HOV.out.mono ?_; rintro e w1 ⟨rfl, hzs, s1, l1, t01⟩; have t1 := T1.trans t01; have f1 : FL w1 w.heap.size 0 0 0 := FL.turn F1 t01 (not_two (by omega) (by omega)); have c0 := FL.c0 f1; have c1 := FL.c1 f1; have c2 := FL.c2 f1; have z0 := Blk.frozen f1 0; have z1 := Blk.frozen f1 1; have z2 := Blk.frozen f1 2; have b3 := Blk.lt f1; have s2 := SrcAt.set3 (u := .int .i64 4) (v := .int .i64 3) (x := .int .i64 (pz : Int)) s1 (show p ≠ w.heap.size by omega); have l2 := LedAt.set3 (u := .int .i64 4) (v := .int .i64 3) (x := .int .i64 (pz : Int)) l1 (show g ≠ w.heap.size by omega); have f2 := FL.store (k' := 4) (f' := 3) (a' := (pz : Int)) f1; have t2 := Turn.set3 (b := w.heap.size) (u := .int .i64 4) (v := .int .i64 3) (x := .int .i64 (pz : Int)) t1 (.inr (Nat.le_refl _))))
    have k0 := FL.c0 f2
    have k1 := FL.c1 f2
    have k2 := FL.c2 f2
    have y0 := Blk.frozen f2 0
    have y1 := Blk.frozen f2 1
    have y2 := Blk.frozen f2 2
    have b4 := Blk.lt f2
    clear c0 c1 c2 z0 z1 z2 b3
    generalize (((w1.setCell ⟨w.heap.size, 0, none⟩ (.int .i64 4)).setCell ⟨w.heap.size, 1, none⟩ (.int .i64 3)).setCell ⟨w.heap.size, 2, none⟩ (.int .i64 (pz : Int))) = wv at s2 l2 f2 t2 k0 k1 k2 y0 y1 y2 b4 ⊢
    go_region
    all_goals go_wp2_with fail
    have fz := FL.store (k' := 4) (f' := 3) (a' := (pz : Int)) f2
    have sz := SrcAt.set3 (u := .int .i64 4) (v := .int .i64 3) (x := .int .i64 (pz : Int)) s2 (show p ≠ w.heap.size by omega)
    have lz := LedAt.set3 (u := .int .i64 4) (v := .int .i64 3) (x := .int .i64 (pz : Int)) l2 (show g ≠ w.heap.size by omega)
    have tz := Turn.set3 (b := w.heap.size) (u := .int .i64 4) (v := .int .i64 3) (x := .int .i64 (pz : Int)) t2 (.inr (Nat.le_refl _))
    replace fz := Blk.drew fz
    replace sz := Blk.drew sz
    replace lz := Blk.drew lz
    replace tz := Turn.drew tz
    generalize (((wv.setCell ⟨w.heap.size, 0, none⟩ (.int .i64 4)).setCell ⟨w.heap.size, 1, none⟩ (.int .i64 3)).setCell ⟨w.heap.size, 2, none⟩ (.int .i64 (pz : Int))).drew = we at fz sz lz tz ⊢
    have e0 := FL.c0 fz
    have e1 := FL.c1 fz
    have e2 := FL.c2 fz
    exact bodyPost_ret (v := .tuple #[.int .i64 0, .int .i64 0, .agg #[.int .i64 4, .int .i64 3, .int .i64 (pz : Int)]]) (by simp [results, Tryz.results96, go_sem, e0, e1, e2]) rfl ⟨pz, ⟨hzs, HZE.out⟩, rfl, sz, lz, tz⟩
  · obtain rfl : r = c + 1 := by omega
    have HOV0 := tokOver_yes S1 o L1 hx ok (by rw [hc]; omega)
    obtain ⟨pz, hz⟩ : ∃ z : Nat, z = a + c := ⟨_, rfl⟩
    have HZE : Hid (pz = a + min (c + 1) c) := Lib.hid (by omega)
    rw [hc, ← hz] at HOV0
    have HOV := Lib.hid HOV0
    have HZ := Lib.hid (show pz ≤ s.size by omega)
    have HOK := Lib.hid (Led.used_ok (k := k + c + 1) ok (by omega))
    have HW := Lib.hid (Led.used_no (k := k + c + 1) hx (by omega))
    have HE : Hid (((x.used (k + c + 1)).refused 3 1).reason ≠ 0) := Lib.hid (by simp [Led.refused])
    clear h hl hx ok hs hc o HOV0 S1 L1 hz
    go_enter Tryz.func96, Tryz.ntmps96
    go_wp2_with (first
      | (go_at_call 122; refine HOV.out.mono ?_; rintro e w1 ⟨rfl, s1, l1, t01⟩; have t1 := T1.trans t01; have f1 : FL w1 w.heap.size 0 0 0 := FL.turn F1 t01 (not_two (by omega) (by omega)); have c0 := FL.c0 f1; have c1 := FL.c1 f1; have c2 := FL.c2 f1; have z0 := Blk.frozen f1 0; have z1 := Blk.frozen f1 1; have z2 := Blk.frozen f1 2; have b3 := Blk.lt f1; have s2 := SrcAt.set3 (u := .int .i64 0) (v := .int .i64 0) (x := .int .i64 0) s1 (show p ≠ w.heap.size by omega); have l2 := LedAt.set3 (u := .int .i64 0) (v := .int .i64 0) (x := .int .i64 0) l1 (show g ≠ w.heap.size by omega); have f2 := FL.store (k' := 0) (f' := 0) (a' := 0) f1; have t2 := Turn.set3 (b := w.heap.size) (u := .int .i64 0) (v := .int .i64 0) (x := .int .i64 0) t1 (.inr (Nat.le_refl _)))
      | (go_at_call 52; refine (srcAt_at s2).mono ?_; rintro e w9 ⟨rfl, rfl⟩)
      | (go_at_call 69; refine (srcU8_spent s2 l2 HOK.out HW.out).mono ?_; rintro e w3 ⟨rfl, s3, l3, t03⟩; have t3 := t2.trans t03; have f3 := FL.turn f2 t03 (not_two (by omega) (by omega)))
      | (go_at_call 43; refine (srcFault_spent 3 s3 l3 HE.out).mono ?_; rintro e w4 ⟨rfl, b4⟩; have t04 : Turn [p, g] _ w4 := Turn.of_below b4; have t4 := t3.trans t04; have s4 := Blk.below s3 b4 (Blk.lt s3); have l4 := Blk.below l3 b4 (Blk.lt l3); have f4 : FL w4 w.heap.size 0 0 0 := Blk.below f3 b4 (Blk.lt f3); clear c0 c1 c2 z0 z1 z2 b3; have c0 := FL.c0 f4; have c1 := FL.c1 f4; have c2 := FL.c2 f4; have z0 := Blk.frozen f4 0; have z1 := Blk.frozen f4 1; have z2 := Blk.frozen f4 2; have b3 := Blk.lt f4))
    have fz := FL.store (k' := 4) (f' := 3) (a' := (pz : Int)) f4
    have sz := SrcAt.set3 (u := .int .i64 4) (v := .int .i64 3) (x := .int .i64 (pz : Int)) s4 (show p ≠ w.heap.size by omega)
    have lz := LedAt.set3 (u := .int .i64 4) (v := .int .i64 3) (x := .int .i64 (pz : Int)) l4 (show g ≠ w.heap.size by omega)
    have tz := Turn.set3 (b := w.heap.size) (u := .int .i64 4) (v := .int .i64 3) (x := .int .i64 (pz : Int)) t4 (.inr (Nat.le_refl _))
    generalize (((w4.setCell ⟨w.heap.size, 0, none⟩ (.int .i64 4)).setCell ⟨w.heap.size, 1, none⟩ (.int .i64 3)).setCell ⟨w.heap.size, 2, none⟩ (.int .i64 (pz : Int))) = we at fz sz lz tz ⊢
    have e0 := fz.c0
    have e1 := fz.c1
    have e2 := fz.c2
    exact bodyPost_ret (v := .tuple #[.int .i64 0, .int .i64 0, .agg #[.int .i64 4, .int .i64 3, .int .i64 (pz : Int)]]) (by simp [results, Tryz.results96, go_sem, e0, e1, e2]) rfl ⟨pz, ⟨HZ.out, HZE.out⟩, rfl, sz, lz, tz⟩
end Go.Proofs.YthljhebbblhakaaGreatDoor
