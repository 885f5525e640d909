/- The reader of tokens: Number. -/
import Derived.Test.YthljhebbblhakaaGreatDoorETok3
namespace Go.Proofs.YthljhebbblhakaaGreatDoor
open Go.RowKit
set_option linter.unusedVariables false
set_option linter.unusedSimpArgs false

set_option maxRecDepth 100000 in
set_option maxHeartbeats 1000000 in
theorem tokNumber_end {w : World} {p g : Nat} {s : ByteArray} {a k f : Nat} {x : Led} (h : SrcAt w p g s 0 s.size a) (o : SrcOk s 0 s.size a) (hl : LedAt w g (x.used k)) (hx : x.reason = 0) (ok : x.Ok) (hf : f = a + overN false ((nats s).drop a)) (hs : x.steps + k + (f - a + 2) ≤ x.S) (hfs : f = s.size) :
    Calls Tryz.prog 71 #[.pointer (some ⟨p, 0, none⟩)] w fun e w' => e = .returned (.tuple #[.int .i64 0, .int .i64 0, .agg #[.int .i64 1, .int .i64 3, .int .i64 (s.size : Int)]]) ∧ SrcAt w' p g s 0 s.size s.size ∧ LedAt w' g (x.used (k + (f - a + 2))) ∧ Turn [p, g] w w' := by
  have hpl := Blk.lt h
  have hgl := Blk.lt hl
  have hpg := h.ne hl
  have hal := o.at_
  have hsm := o.sm
  have hlen := nats_len s
  have S1 : SrcAt (w.alloc (.cells #[.int .i64 0, .int .i64 0, .int .i64 0] 33)) p g s 0 s.size a := Blk.alloc h _
  have L1 : LedAt (w.alloc (.cells #[.int .i64 0, .int .i64 0, .int .i64 0] 33)) g (x.used k) := Blk.alloc hl _
  have F1 : FL (w.alloc (.cells #[.int .i64 0, .int .i64 0, .int .i64 0] 33)) w.heap.size 0 0 0 := Blk.new _ _ _
  have T1 : Turn [p, g] w (w.alloc (.cells #[.int .i64 0, .int .i64 0, .int .i64 0] 33)) := (Turn.refl _ _).alloc _
  obtain ⟨c, hc⟩ : ∃ c, c = overN false ((nats s).drop a) := ⟨_, rfl⟩
  rw [← hc] at hf
  have HF1 := Lib.hid (tokFirst_end S1 o L1 hx ok hc.symm (by omega) (by omega))
  have HQ : Hid (k + c + 2 = k + (f - a + 2)) := Lib.hid (by omega)
  clear h hl hx ok hs o S1 L1 hc hf
  go_enter Tryz.func71, Tryz.ntmps71
  go_wp2_with (first
    | (go_at_call 96; refine HF1.out.mono ?_; rintro e w1 ⟨rfl, s1, l1, t01⟩; have t1 := T1.trans t01; have f1 : FL w1 w.heap.size 0 0 0 := FL.turn F1 t01 (not_two (by omega) (by omega)); have c0 := FL.c0 f1; have c1 := FL.c1 f1; have c2 := FL.c2 f1; have z0 := Blk.frozen f1 0; have z1 := Blk.frozen f1 1; have z2 := Blk.frozen f1 2; have b3 := Blk.lt f1; have s2 := SrcAt.set3 (u := .int .i64 1) (v := .int .i64 3) (x := .int .i64 (s.size : Int)) s1 (show p ≠ w.heap.size by omega); have l2 := LedAt.set3 (u := .int .i64 1) (v := .int .i64 3) (x := .int .i64 (s.size : Int)) l1 (show g ≠ w.heap.size by omega); have f2 := FL.store (k' := 1) (f' := 3) (a' := (s.size : Int)) f1; have t2 := Turn.set3 (b := w.heap.size) (u := .int .i64 1) (v := .int .i64 3) (x := .int .i64 (s.size : Int)) t1 (.inr (Nat.le_refl _))))
  have k0 := FL.c0 f2
  have k1 := FL.c1 f2
  have k2 := FL.c2 f2
  have y0 := Blk.frozen f2 0
  have y1 := Blk.frozen f2 1
  have y2 := Blk.frozen f2 2
  have b4 := Blk.lt f2
  clear c0 c1 c2 z0 z1 z2 b3
  generalize (((w1.setCell ⟨w.heap.size, 0, none⟩ (.int .i64 1)).setCell ⟨w.heap.size, 1, none⟩ (.int .i64 3)).setCell ⟨w.heap.size, 2, none⟩ (.int .i64 (s.size : Int))) = wv at s2 l2 f2 t2 k0 k1 k2 y0 y1 y2 b4 ⊢
  go_region
  all_goals go_wp2_with fail
  have fz := FL.store (k' := 1) (f' := 3) (a' := (s.size : Int)) f2
  have sz := SrcAt.set3 (u := .int .i64 1) (v := .int .i64 3) (x := .int .i64 (s.size : Int)) s2 (show p ≠ w.heap.size by omega)
  have lz := LedAt.set3 (u := .int .i64 1) (v := .int .i64 3) (x := .int .i64 (s.size : Int)) l2 (show g ≠ w.heap.size by omega)
  have tz := Turn.set3 (b := w.heap.size) (u := .int .i64 1) (v := .int .i64 3) (x := .int .i64 (s.size : Int)) t2 (.inr (Nat.le_refl _))
  replace fz := Blk.drew fz
  replace sz := Blk.drew sz
  replace lz := Blk.drew lz
  replace tz := Turn.drew tz
  generalize (((wv.setCell ⟨w.heap.size, 0, none⟩ (.int .i64 1)).setCell ⟨w.heap.size, 1, none⟩ (.int .i64 3)).setCell ⟨w.heap.size, 2, none⟩ (.int .i64 (s.size : Int))).drew = we at fz sz lz tz ⊢
  have e0 := FL.c0 fz
  have e1 := FL.c1 fz
  have e2 := FL.c2 fz
  exact bodyPost_ret (v := .tuple #[.int .i64 0, .int .i64 0, .agg #[.int .i64 1, .int .i64 3, .int .i64 (s.size : Int)]]) (by simp [results, Tryz.results71, go_sem, e0, e1, e2]) rfl ⟨rfl, sz, by rw [← HQ.out]; exact lz, tz⟩

set_option maxRecDepth 100000 in
set_option maxHeartbeats 1000000 in
theorem tokNumber_none {w : World} {p g : Nat} {s : ByteArray} {a k f : Nat} {x : Led} (h : SrcAt w p g s 0 s.size a) (o : SrcOk s 0 s.size a) (hl : LedAt w g (x.used k)) (hx : x.reason = 0) (ok : x.Ok) (hf : f = a + overN false ((nats s).drop a)) (hs : x.steps + k + (f - a + 2) ≤ x.S) (hfs : f < s.size) (hd : isDigit (bat s f) = false) :
    Calls Tryz.prog 71 #[.pointer (some ⟨p, 0, none⟩)] w fun e w' => e = .returned (.tuple #[.int .i64 0, .int .i64 0, .agg #[.int .i64 2, .int .i64 3, .int .i64 (f : Int)]]) ∧ SrcAt w' p g s 0 s.size (f + 1) ∧ LedAt w' g (x.used (k + (f - a + 2))) ∧ Turn [p, g] w w' := by
  have hpl := Blk.lt h
  have hgl := Blk.lt hl
  have hpg := h.ne hl
  have hal := o.at_
  have hsm := o.sm
  have hlen := nats_len s
  have S1 : SrcAt (w.alloc (.cells #[.int .i64 0, .int .i64 0, .int .i64 0] 33)) p g s 0 s.size a := Blk.alloc h _
  have L1 : LedAt (w.alloc (.cells #[.int .i64 0, .int .i64 0, .int .i64 0] 33)) g (x.used k) := Blk.alloc hl _
  have F1 : FL (w.alloc (.cells #[.int .i64 0, .int .i64 0, .int .i64 0] 33)) w.heap.size 0 0 0 := Blk.new _ _ _
  have T1 : Turn [p, g] w (w.alloc (.cells #[.int .i64 0, .int .i64 0, .int .i64 0] 33)) := (Turn.refl _ _).alloc _
  obtain ⟨c, hc⟩ : ∃ c, c = overN false ((nats s).drop a) := ⟨_, rfl⟩
  rw [← hc] at hf
  have HF0 := tokFirst_yes S1 o L1 hx ok hc.symm (by omega) (by omega)
  rw [← hf] at HF0
  have HF1 := Lib.hid HF0
  have HQ : Hid (k + c + 2 = k + (f - a + 2)) := Lib.hid (by omega)
  clear h hl hx ok hs o S1 L1 hc hf HF0
  have hq2 : bat s f < 48 ∨ 57 < bat s f := by unfold isDigit at hd; simp at hd; omega
  clear hd
  generalize bat s f = b at HF1 hq2
  by_cases h48 : b < 48
  · have j8 : ((b : Nat) : Int) < 48 := by omega
    go_enter Tryz.func71, Tryz.ntmps71
    go_wp2_with (first
      | (go_at_call 96; refine HF1.out.mono ?_; rintro e w1 ⟨rfl, s1, l1, t01⟩; have t1 := T1.trans t01; have f1 : FL w1 w.heap.size 0 0 0 := FL.turn F1 t01 (not_two (by omega) (by omega)); have c0 := FL.c0 f1; have c1 := FL.c1 f1; have c2 := FL.c2 f1; have z0 := Blk.frozen f1 0; have z1 := Blk.frozen f1 1; have z2 := Blk.frozen f1 2; have b3 := Blk.lt f1; have s2 := SrcAt.set3 (u := .int .i64 0) (v := .int .i64 0) (x := .int .i64 0) s1 (show p ≠ w.heap.size by omega); have l2 := LedAt.set3 (u := .int .i64 0) (v := .int .i64 0) (x := .int .i64 0) l1 (show g ≠ w.heap.size by omega); have f2 := FL.store (k' := 0) (f' := 0) (a' := 0) f1; have t2 := Turn.set3 (b := w.heap.size) (u := .int .i64 0) (v := .int .i64 0) (x := .int .i64 0) t1 (.inr (Nat.le_refl _)))
      | (go_at_call 73; refine (wrong_any _ _).mono ?_; rintro e w4 ⟨rfl, b4⟩; have t04 : Turn [p, g] _ w4 := Turn.of_below b4; have t4 := t2.trans t04; have s4 := Blk.below s2 b4 (Blk.lt s2); have l4 := Blk.below l2 b4 (Blk.lt l2); have f4 : FL w4 w.heap.size 0 0 0 := Blk.below f2 b4 (Blk.lt f2); clear c0 c1 c2 z0 z1 z2 b3; have c0 := FL.c0 f4; have c1 := FL.c1 f4; have c2 := FL.c2 f4; have z0 := Blk.frozen f4 0; have z1 := Blk.frozen f4 1; have z2 := Blk.frozen f4 2; have b3 := Blk.lt f4))
    have fz := FL.store (k' := 2) (f' := 3) (a' := (f : Int)) f4
    have sz := SrcAt.set3 (u := .int .i64 2) (v := .int .i64 3) (x := .int .i64 (f : Int)) s4 (show p ≠ w.heap.size by omega)
    have lz := LedAt.set3 (u := .int .i64 2) (v := .int .i64 3) (x := .int .i64 (f : Int)) l4 (show g ≠ w.heap.size by omega)
    have tz := Turn.set3 (b := w.heap.size) (u := .int .i64 2) (v := .int .i64 3) (x := .int .i64 (f : Int)) t4 (.inr (Nat.le_refl _))
    generalize (((w4.setCell ⟨w.heap.size, 0, none⟩ (.int .i64 2)).setCell ⟨w.heap.size, 1, none⟩ (.int .i64 3)).setCell ⟨w.heap.size, 2, none⟩ (.int .i64 (f : Int))) = we at fz sz lz tz ⊢
    have e0 := fz.c0
    have e1 := fz.c1
    have e2 := fz.c2
    exact bodyPost_ret (v := .tuple #[.int .i64 0, .int .i64 0, .agg #[.int .i64 2, .int .i64 3, .int .i64 (f : Int)]]) (by simp [results, Tryz.results71, go_sem, e0, e1, e2]) rfl ⟨rfl, sz, by rw [← HQ.out]; exact lz, tz⟩
  · have j8 : ¬ ((b : Nat) : Int) < 48 := by omega
    have j9 : (57 : Int) < ((b : Nat) : Int) := by omega
    go_enter Tryz.func71, Tryz.ntmps71
    go_wp2_with (first
      | (go_at_call 96; refine HF1.out.mono ?_; rintro e w1 ⟨rfl, s1, l1, t01⟩; have t1 := T1.trans t01; have f1 : FL w1 w.heap.size 0 0 0 := FL.turn F1 t01 (not_two (by omega) (by omega)); have c0 := FL.c0 f1; have c1 := FL.c1 f1; have c2 := FL.c2 f1; have z0 := Blk.frozen f1 0; have z1 := Blk.frozen f1 1; have z2 := Blk.frozen f1 2; have b3 := Blk.lt f1; have s2 := SrcAt.set3 (u := .int .i64 0) (v := .int .i64 0) (x := .int .i64 0) s1 (show p ≠ w.heap.size by omega); have l2 := LedAt.set3 (u := .int .i64 0) (v := .int .i64 0) (x := .int .i64 0) l1 (show g ≠ w.heap.size by omega); have f2 := FL.store (k' := 0) (f' := 0) (a' := 0) f1; have t2 := Turn.set3 (b := w.heap.size) (u := .int .i64 0) (v := .int .i64 0) (x := .int .i64 0) t1 (.inr (Nat.le_refl _)))
      | (go_at_call 73; refine (wrong_any _ _).mono ?_; rintro e w4 ⟨rfl, b4⟩; have t04 : Turn [p, g] _ w4 := Turn.of_below b4; have t4 := t2.trans t04; have s4 := Blk.below s2 b4 (Blk.lt s2); have l4 := Blk.below l2 b4 (Blk.lt l2); have f4 : FL w4 w.heap.size 0 0 0 := Blk.below f2 b4 (Blk.lt f2); clear c0 c1 c2 z0 z1 z2 b3; have c0 := FL.c0 f4; have c1 := FL.c1 f4; have c2 := FL.c2 f4; have z0 := Blk.frozen f4 0; have z1 := Blk.frozen f4 1; have z2 := Blk.frozen f4 2; have b3 := Blk.lt f4))
    have fz := FL.store (k' := 2) (f' := 3) (a' := (f : Int)) f4
    have sz := SrcAt.set3 (u := .int .i64 2) (v := .int .i64 3) (x := .int .i64 (f : Int)) s4 (show p ≠ w.heap.size by omega)
    have lz := LedAt.set3 (u := .int .i64 2) (v := .int .i64 3) (x := .int .i64 (f : Int)) l4 (show g ≠ w.heap.size by omega)
    have tz := Turn.set3 (b := w.heap.size) (u := .int .i64 2) (v := .int .i64 3) (x := .int .i64 (f : Int)) t4 (.inr (Nat.le_refl _))
    generalize (((w4.setCell ⟨w.heap.size, 0, none⟩ (.int .i64 2)).setCell ⟨w.heap.size, 1, none⟩ (.int .i64 3)).setCell ⟨w.heap.size, 2, none⟩ (.int .i64 (f : Int))) = we at fz sz lz tz ⊢
    have e0 := fz.c0
    have e1 := fz.c1
    have e2 := fz.c2
    exact bodyPost_ret (v := .tuple #[.int .i64 0, .int .i64 0, .agg #[.int .i64 2, .int .i64 3, .int .i64 (f : Int)]]) (by simp [results, Tryz.results71, go_sem, e0, e1, e2]) rfl ⟨rfl, sz, by rw [← HQ.out]; exact lz, tz⟩

set_option maxRecDepth 100000 in
set_option maxHeartbeats 1000000 in
theorem tokNumber_yes {w : World} {p g : Nat} {s : ByteArray} {a k f dn dt : Nat} {x : Led} (h : SrcAt w p g s 0 s.size a) (o : SrcOk s 0 s.size a) (hl : LedAt w g (x.used k)) (hx : x.reason = 0) (ok : x.Ok) (hf : f = a + overN false ((nats s).drop a)) (hfs : f < s.size) (hd : isDigit (bat s f) = true) (hdn : dn = digN ((nats s).drop f)) (hdt : dt = if f + dn < s.size then 1 else 0) (hs : x.steps + k + (f - a + 1 + dn + dt) ≤ x.S) :
    Calls Tryz.prog 71 #[.pointer (some ⟨p, 0, none⟩)] w fun e w' => e = .returned (.tuple #[.int .i64 (digV 0 ((nats s).drop f) : Int), .int .i64 (f : Int), .agg #[.int .i64 0, .int .i64 0, .int .i64 0]]) ∧ SrcAt w' p g s 0 s.size (f + dn) ∧ LedAt w' g (x.used (k + (f - a + 1 + dn + dt))) ∧ Turn [p, g] w w' := by
  have hpl := Blk.lt h
  have hgl := Blk.lt hl
  have hpg := h.ne hl
  have hal := o.at_
  have hsm := o.sm
  have hlen := nats_len s
  have S1 : SrcAt (w.alloc (.cells #[.int .i64 0, .int .i64 0, .int .i64 0] 33)) p g s 0 s.size a := Blk.alloc h _
  have L1 : LedAt (w.alloc (.cells #[.int .i64 0, .int .i64 0, .int .i64 0] 33)) g (x.used k) := Blk.alloc hl _
  have F1 : FL (w.alloc (.cells #[.int .i64 0, .int .i64 0, .int .i64 0] 33)) w.heap.size 0 0 0 := Blk.new _ _ _
  have T1 : Turn [p, g] w (w.alloc (.cells #[.int .i64 0, .int .i64 0, .int .i64 0] 33)) := (Turn.refl _ _).alloc _
  obtain ⟨c, hc⟩ : ∃ c, c = overN false ((nats s).drop a) := ⟨_, rfl⟩
  rw [← hc] at hf
  have HF0 := tokFirst_yes S1 o L1 hx ok hc.symm (by have := (dig_yes (l := nats s) (q := f) (by omega) hd 0).1; omega) (by omega)
  rw [← hf] at HF0
  have HF1 := Lib.hid HF0
  obtain ⟨d1, d2⟩ := dig_yes (l := nats s) (q := f) (by omega) hd 0
  have HD2 : Hid (digV 0 ((nats s).drop f) = digV (bat s f - 48) ((nats s).drop (f + 1))) := Lib.hid (by rw [d2, show up 0 ((nats s).getD f 0) = bat s f - 48 by have := bat_lt s f; unfold up; show min (10 * 0 + bat s f - 48) 1000000000 = _; omega])
  have hd' : 48 ≤ bat s f ∧ bat s f ≤ 57 := by unfold isDigit at hd; simpa using hd
  have HX := Lib.hid hx
  have HK := Lib.hid ok
  have HS := Lib.hid hs
  have HSS : Hid (c = f - a ∧ a ≤ f) := Lib.hid (by omega)
  have HDN : Hid (digN ((nats s).drop (f + 1)) = dn - 1 ∧ 1 ≤ dn) := Lib.hid (by rw [hdn, d1]; omega)
  have HDT : Hid (dt = if f + 1 + (dn - 1) < s.size then 1 else 0) := Lib.hid (by rw [hdt]; have := HDN.out.2; rw [show f + 1 + (dn - 1) = f + dn by omega])
  have j8 : ¬ ((bat s f : Nat) : Int) < 48 := by omega
  have j9 : ¬ (57 : Int) < ((bat s f : Nat) : Int) := by omega
  have hcast : ((bat s f : Nat) : Int) - 48 = ((bat s f - 48 : Nat) : Int) := by omega
  have HOK : Hid (SrcOk s 0 s.size (f + 1)) := Lib.hid ⟨by omega, by omega, Nat.le_refl _, hsm⟩
  clear h hl hx ok hs o S1 L1 hc hf HF0 d1 d2 hd hdn hdt
  go_enter Tryz.func71, Tryz.ntmps71
  go_wp2_with (first
    | (go_at_call 96; refine HF1.out.mono ?_; rintro e w1 ⟨rfl, s1, l1, t01⟩; have t1 := T1.trans t01; have f1 : FL w1 w.heap.size 0 0 0 := FL.turn F1 t01 (not_two (by omega) (by omega)); have c0 := FL.c0 f1; have c1 := FL.c1 f1; have c2 := FL.c2 f1; have z0 := Blk.frozen f1 0; have z1 := Blk.frozen f1 1; have z2 := Blk.frozen f1 2; have b3 := Blk.lt f1; have s2 := SrcAt.set3 (u := .int .i64 0) (v := .int .i64 0) (x := .int .i64 0) s1 (show p ≠ w.heap.size by omega); have l2 := LedAt.set3 (u := .int .i64 0) (v := .int .i64 0) (x := .int .i64 0) l1 (show g ≠ w.heap.size by omega); have f2 := FL.store (k' := 0) (f' := 0) (a' := 0) f1; have t2 := Turn.set3 (b := w.heap.size) (u := .int .i64 0) (v := .int .i64 0) (x := .int .i64 0) t1 (.inr (Nat.le_refl _)))
    | (go_at_call 97; refine (tokDigits_yes s2 HOK.out l2 HX.out HK.out (by omega) HDN.out.1 HDT.out (by have := HS.out; have := HSS.out; have := HDN.out.2; omega)).mono ?_; rintro e w5 ⟨rfl, s5, l5, t05⟩; have t5 := t2.trans t05; have f5 := FL.turn f2 t05 (not_two (by omega) (by omega)); clear c0 c1 c2 z0 z1 z2 b3; have c0 := FL.c0 f5; have c1 := FL.c1 f5; have c2 := FL.c2 f5; have z0 := Blk.frozen f5 0; have z1 := Blk.frozen f5 1; have z2 := Blk.frozen f5 2; have b3 := Blk.lt f5))
  have s6 := SrcAt.set3 (u := .int .i64 0) (v := .int .i64 0) (x := .int .i64 0) s5 (show p ≠ w.heap.size by omega)
  have l6 := LedAt.set3 (u := .int .i64 0) (v := .int .i64 0) (x := .int .i64 0) l5 (show g ≠ w.heap.size by omega)
  have f6 := FL.store (k' := 0) (f' := 0) (a' := 0) f5
  have t6 := Turn.set3 (b := w.heap.size) (u := .int .i64 0) (v := .int .i64 0) (x := .int .i64 0) t5 (.inr (Nat.le_refl _))
  generalize (((w5.setCell ⟨w.heap.size, 0, none⟩ (.int .i64 0)).setCell ⟨w.heap.size, 1, none⟩ (.int .i64 0)).setCell ⟨w.heap.size, 2, none⟩ (.int .i64 0)) = wv at s6 l6 f6 t6 ⊢
  have k0 := FL.c0 f6
  have k1 := FL.c1 f6
  have k2 := FL.c2 f6
  have fz := FL.store (k' := 0) (f' := 0) (a' := 0) f6
  have sz := SrcAt.set3 (u := .int .i64 0) (v := .int .i64 0) (x := .int .i64 0) s6 (show p ≠ w.heap.size by omega)
  have lz := LedAt.set3 (u := .int .i64 0) (v := .int .i64 0) (x := .int .i64 0) l6 (show g ≠ w.heap.size by omega)
  have tz := Turn.set3 (b := w.heap.size) (u := .int .i64 0) (v := .int .i64 0) (x := .int .i64 0) t6 (.inr (Nat.le_refl _))
  generalize (((wv.setCell ⟨w.heap.size, 0, none⟩ (.int .i64 0)).setCell ⟨w.heap.size, 1, none⟩ (.int .i64 0)).setCell ⟨w.heap.size, 2, none⟩ (.int .i64 0)) = we at fz sz lz tz ⊢
  have e0 := fz.c0
  have e1 := fz.c1
  have e2 := fz.c2
  rw [show f + 1 + (dn - 1) = f + dn by have := HDN.out.2; omega] at sz
  rw [show k + c + 2 + (dn - 1) + dt = k + (f - a + 1 + dn + dt) by have := HDN.out.2; have := HSS.out; omega] at lz
  exact bodyPost_ret (v := .tuple #[.int .i64 (digV (bat s f - 48) ((nats s).drop (f + 1)) : Int), .int .i64 (f : Int), .agg #[.int .i64 0, .int .i64 0, .int .i64 0]]) (by simp [results, Tryz.results71, go_sem, e0, e1, e2]) rfl ⟨by rw [HD2.out], sz, lz, tz⟩

set_option maxRecDepth 100000 in
set_option maxHeartbeats 1000000 in
theorem tokNumber_spent1 {w : World} {p g : Nat} {s : ByteArray} {a k f r : Nat} {x : Led} (h : SrcAt w p g s 0 s.size a) (o : SrcOk s 0 s.size a) (hl : LedAt w g (x.used k)) (hx : x.reason = 0) (ok : x.Ok) (hf : f = a + overN false ((nats s).drop a)) (hs : x.steps + k + r = x.S) (hr : r < f - a + 2) :
    Calls Tryz.prog 71 #[.pointer (some ⟨p, 0, none⟩)] w fun e w' => ∃ z : Nat, (z ≤ s.size ∧ z = a + min r (f - a)) ∧ e = .returned (.tuple #[.int .i64 0, .int .i64 0, .agg #[.int .i64 4, .int .i64 3, .int .i64 (z : Int)]]) ∧ LedAt w' g ((x.used (k + r)).refused 3 1) ∧ Turn [p, g] w w' := by
  have hpl := Blk.lt h
  have hgl := Blk.lt hl
  have hpg := h.ne hl
  have hal := o.at_
  have hsm := o.sm
  have hlen := nats_len s
  have S1 : SrcAt (w.alloc (.cells #[.int .i64 0, .int .i64 0, .int .i64 0] 33)) p g s 0 s.size a := Blk.alloc h _
  have L1 : LedAt (w.alloc (.cells #[.int .i64 0, .int .i64 0, .int .i64 0] 33)) g (x.used k) := Blk.alloc hl _
  have F1 : FL (w.alloc (.cells #[.int .i64 0, .int .i64 0, .int .i64 0] 33)) w.heap.size 0 0 0 := Blk.new _ _ _
  have T1 : Turn [p, g] w (w.alloc (.cells #[.int .i64 0, .int .i64 0, .int .i64 0] 33)) := (Turn.refl _ _).alloc _
  obtain ⟨c, hc⟩ : ∃ c, c = overN false ((nats s).drop a) := ⟨_, rfl⟩
  rw [← hc] at hf
  have HCF : Hid (c = f - a) := Lib.hid (by omega)
  have HF1 := Lib.hid (tokFirst_spent S1 o L1 hx ok hc.symm hs (by omega))
  clear h hl hx ok hs o S1 L1 hc hf
  go_enter Tryz.func71, Tryz.ntmps71
  go_wp2_with (first
    | (go_at_call 96; refine HF1.out.mono ?_; rintro e w1 ⟨z, hzs, rfl, s1, l1, t01⟩; have HZS := Lib.hid hzs; clear hzs; have t1 := T1.trans t01; have f1 : FL w1 w.heap.size 0 0 0 := FL.turn F1 t01 (not_two (by omega) (by omega)); have c0 := FL.c0 f1; have c1 := FL.c1 f1; have c2 := FL.c2 f1; have z0 := Blk.frozen f1 0; have z1 := Blk.frozen f1 1; have z2 := Blk.frozen f1 2; have b3 := Blk.lt f1; have s2 := SrcAt.set3 (u := .int .i64 4) (v := .int .i64 3) (x := .int .i64 (z : Int)) s1 (show p ≠ w.heap.size by omega); have l2 := LedAt.set3 (u := .int .i64 4) (v := .int .i64 3) (x := .int .i64 (z : Int)) l1 (show g ≠ w.heap.size by omega); have f2 := FL.store (k' := 4) (f' := 3) (a' := (z : Int)) f1; have t2 := Turn.set3 (b := w.heap.size) (u := .int .i64 4) (v := .int .i64 3) (x := .int .i64 (z : Int)) t1 (.inr (Nat.le_refl _))))
  have k0 := FL.c0 f2
  have k1 := FL.c1 f2
  have k2 := FL.c2 f2
  have y0 := Blk.frozen f2 0
  have y1 := Blk.frozen f2 1
  have y2 := Blk.frozen f2 2
  have b4 := Blk.lt f2
  clear c0 c1 c2 z0 z1 z2 b3
  generalize (((w1.setCell ⟨w.heap.size, 0, none⟩ (.int .i64 4)).setCell ⟨w.heap.size, 1, none⟩ (.int .i64 3)).setCell ⟨w.heap.size, 2, none⟩ (.int .i64 (z : Int))) = wv at s2 l2 f2 t2 k0 k1 k2 y0 y1 y2 b4 ⊢
  go_region
  all_goals go_wp2_with fail
  have fz := FL.store (k' := 4) (f' := 3) (a' := (z : Int)) f2
  have sz := SrcAt.set3 (u := .int .i64 4) (v := .int .i64 3) (x := .int .i64 (z : Int)) s2 (show p ≠ w.heap.size by omega)
  have lz := LedAt.set3 (u := .int .i64 4) (v := .int .i64 3) (x := .int .i64 (z : Int)) l2 (show g ≠ w.heap.size by omega)
  have tz := Turn.set3 (b := w.heap.size) (u := .int .i64 4) (v := .int .i64 3) (x := .int .i64 (z : Int)) t2 (.inr (Nat.le_refl _))
  replace fz := Blk.drew fz
  replace sz := Blk.drew sz
  replace lz := Blk.drew lz
  replace tz := Turn.drew tz
  generalize (((wv.setCell ⟨w.heap.size, 0, none⟩ (.int .i64 4)).setCell ⟨w.heap.size, 1, none⟩ (.int .i64 3)).setCell ⟨w.heap.size, 2, none⟩ (.int .i64 (z : Int))).drew = we at fz sz lz tz ⊢
  have e0 := FL.c0 fz
  have e1 := FL.c1 fz
  have e2 := FL.c2 fz
  exact bodyPost_ret (v := .tuple #[.int .i64 0, .int .i64 0, .agg #[.int .i64 4, .int .i64 3, .int .i64 (z : Int)]]) (by simp [results, Tryz.results71, go_sem, e0, e1, e2]) rfl ⟨z, ⟨HZS.out.1, by rw [← HCF.out]; exact HZS.out.2⟩, rfl, lz, tz⟩

set_option maxRecDepth 100000 in
set_option maxHeartbeats 1000000 in
theorem tokNumber_spent2 {w : World} {p g : Nat} {s : ByteArray} {a k f dn dt r : Nat} {x : Led} (h : SrcAt w p g s 0 s.size a) (o : SrcOk s 0 s.size a) (hl : LedAt w g (x.used k)) (hx : x.reason = 0) (ok : x.Ok) (hf : f = a + overN false ((nats s).drop a)) (hfs : f < s.size) (hd : isDigit (bat s f) = true) (hdn : dn = digN ((nats s).drop f)) (hdt : dt = if f + dn < s.size then 1 else 0) (hs : x.steps + k + r = x.S) (hr0 : f - a + 2 ≤ r) (hr : r < f - a + 1 + dn + dt) :
    Calls Tryz.prog 71 #[.pointer (some ⟨p, 0, none⟩)] w fun e w' => ∃ z : Nat, (z ≤ s.size ∧ z = f + 1 + (r - (f - a + 2))) ∧ e = .returned (.tuple #[.int .i64 0, .int .i64 0, .agg #[.int .i64 4, .int .i64 3, .int .i64 (z : Int)]]) ∧ LedAt w' g ((x.used (k + r)).refused 3 1) ∧ Turn [p, g] w w' := by
  have hpl := Blk.lt h
  have hgl := Blk.lt hl
  have hpg := h.ne hl
  have hal := o.at_
  have hsm := o.sm
  have hlen := nats_len s
  have S1 : SrcAt (w.alloc (.cells #[.int .i64 0, .int .i64 0, .int .i64 0] 33)) p g s 0 s.size a := Blk.alloc h _
  have L1 : LedAt (w.alloc (.cells #[.int .i64 0, .int .i64 0, .int .i64 0] 33)) g (x.used k) := Blk.alloc hl _
  have F1 : FL (w.alloc (.cells #[.int .i64 0, .int .i64 0, .int .i64 0] 33)) w.heap.size 0 0 0 := Blk.new _ _ _
  have T1 : Turn [p, g] w (w.alloc (.cells #[.int .i64 0, .int .i64 0, .int .i64 0] 33)) := (Turn.refl _ _).alloc _
  obtain ⟨c, hc⟩ : ∃ c, c = overN false ((nats s).drop a) := ⟨_, rfl⟩
  rw [← hc] at hf
  have HF0 := tokFirst_yes S1 o L1 hx ok hc.symm (by omega) (by omega)
  rw [← hf] at HF0
  have HF1 := Lib.hid HF0
  obtain ⟨d1, d2⟩ := dig_yes (l := nats s) (q := f) (by omega) hd 0
  have hd' : 48 ≤ bat s f ∧ bat s f ≤ 57 := by unfold isDigit at hd; simpa using hd
  have HX := Lib.hid hx
  have HK := Lib.hid ok
  have HS := Lib.hid hs
  have HR : Hid (f - a + 2 ≤ r ∧ r < f - a + 1 + dn + dt) := Lib.hid ⟨hr0, hr⟩
  have HSS : Hid (c = f - a ∧ a ≤ f) := Lib.hid (by omega)
  have HDN : Hid (digN ((nats s).drop (f + 1)) = dn - 1 ∧ 1 ≤ dn) := Lib.hid (by rw [hdn, d1]; omega)
  have HDT : Hid (dt = if f + 1 + (dn - 1) < s.size then 1 else 0) := Lib.hid (by rw [hdt]; have := HDN.out.2; rw [show f + 1 + (dn - 1) = f + dn by omega])
  have j8 : ¬ ((bat s f : Nat) : Int) < 48 := by omega
  have j9 : ¬ (57 : Int) < ((bat s f : Nat) : Int) := by omega
  have hcast : ((bat s f : Nat) : Int) - 48 = ((bat s f - 48 : Nat) : Int) := by omega
  have HOK : Hid (SrcOk s 0 s.size (f + 1)) := Lib.hid ⟨by omega, by omega, Nat.le_refl _, hsm⟩
  clear h hl hx ok hs o S1 L1 hc hf HF0 d1 d2 hd hdn hdt hr hr0
  go_enter Tryz.func71, Tryz.ntmps71
  go_wp2_with (first
    | (go_at_call 96; refine HF1.out.mono ?_; rintro e w1 ⟨rfl, s1, l1, t01⟩; have t1 := T1.trans t01; have f1 : FL w1 w.heap.size 0 0 0 := FL.turn F1 t01 (not_two (by omega) (by omega)); have c0 := FL.c0 f1; have c1 := FL.c1 f1; have c2 := FL.c2 f1; have z0 := Blk.frozen f1 0; have z1 := Blk.frozen f1 1; have z2 := Blk.frozen f1 2; have b3 := Blk.lt f1; have s2 := SrcAt.set3 (u := .int .i64 0) (v := .int .i64 0) (x := .int .i64 0) s1 (show p ≠ w.heap.size by omega); have l2 := LedAt.set3 (u := .int .i64 0) (v := .int .i64 0) (x := .int .i64 0) l1 (show g ≠ w.heap.size by omega); have f2 := FL.store (k' := 0) (f' := 0) (a' := 0) f1; have t2 := Turn.set3 (b := w.heap.size) (u := .int .i64 0) (v := .int .i64 0) (x := .int .i64 0) t1 (.inr (Nat.le_refl _)))
    | (go_at_call 97; refine (tokDigits_spent (r := r - (f - a + 2)) s2 HOK.out l2 HX.out HK.out (by omega) HDN.out.1 HDT.out (by have := HS.out; have := HSS.out; have := HR.out; omega) (by have := HR.out; have := HDN.out; omega)).mono ?_; rintro e w5 ⟨z, hzs, rfl, s5, l5, t05⟩; have HZS := Lib.hid hzs; clear hzs; have t5 := t2.trans t05; have f5 := FL.turn f2 t05 (not_two (by omega) (by omega)); clear c0 c1 c2 z0 z1 z2 b3; have c0 := FL.c0 f5; have c1 := FL.c1 f5; have c2 := FL.c2 f5; have z0 := Blk.frozen f5 0; have z1 := Blk.frozen f5 1; have z2 := Blk.frozen f5 2; have b3 := Blk.lt f5))
  have s6 := SrcAt.set3 (u := .int .i64 4) (v := .int .i64 3) (x := .int .i64 (z : Int)) s5 (show p ≠ w.heap.size by omega)
  have l6 := LedAt.set3 (u := .int .i64 4) (v := .int .i64 3) (x := .int .i64 (z : Int)) l5 (show g ≠ w.heap.size by omega)
  have f6 := FL.store (k' := 4) (f' := 3) (a' := (z : Int)) f5
  have t6 := Turn.set3 (b := w.heap.size) (u := .int .i64 4) (v := .int .i64 3) (x := .int .i64 (z : Int)) t5 (.inr (Nat.le_refl _))
  have y0 := Blk.frozen f6 0
  have y1 := Blk.frozen f6 1
  have y2 := Blk.frozen f6 2
  have b4 := Blk.lt f6
  clear c0 c1 c2 z0 z1 z2 b3
  generalize (((w5.setCell ⟨w.heap.size, 0, none⟩ (.int .i64 4)).setCell ⟨w.heap.size, 1, none⟩ (.int .i64 3)).setCell ⟨w.heap.size, 2, none⟩ (.int .i64 (z : Int))) = wv at s6 l6 f6 t6 y0 y1 y2 b4 ⊢
  have k0 := FL.c0 f6
  have k1 := FL.c1 f6
  have k2 := FL.c2 f6
  go_region
  all_goals go_wp2_with fail
  have fz := FL.store (k' := 4) (f' := 3) (a' := (z : Int)) f6
  have sz := SrcAt.set3 (u := .int .i64 4) (v := .int .i64 3) (x := .int .i64 (z : Int)) s6 (show p ≠ w.heap.size by omega)
  have lz := LedAt.set3 (u := .int .i64 4) (v := .int .i64 3) (x := .int .i64 (z : Int)) l6 (show g ≠ w.heap.size by omega)
  have tz := Turn.set3 (b := w.heap.size) (u := .int .i64 4) (v := .int .i64 3) (x := .int .i64 (z : Int)) t6 (.inr (Nat.le_refl _))
  replace fz := Blk.drew fz
  replace sz := Blk.drew sz
  replace lz := Blk.drew lz
  replace tz := Turn.drew tz
  generalize (((wv.setCell ⟨w.heap.size, 0, none⟩ (.int .i64 4)).setCell ⟨w.heap.size, 1, none⟩ (.int .i64 3)).setCell ⟨w.heap.size, 2, none⟩ (.int .i64 (z : Int))).drew = we at fz sz lz tz ⊢
  have e0 := FL.c0 fz
  have e1 := FL.c1 fz
  have e2 := FL.c2 fz
  rw [show k + c + 2 + (r - (f - a + 2)) = k + r by have := HR.out; have := HSS.out; omega] at lz
  exact bodyPost_ret (v := .tuple #[.int .i64 0, .int .i64 0, .agg #[.int .i64 4, .int .i64 3, .int .i64 (z : Int)]]) (by simp [results, Tryz.results71, go_sem, e0, e1, e2]) rfl ⟨z, HZS.out, rfl, lz, tz⟩
end Go.Proofs.YthljhebbblhakaaGreatDoor
