/- The ways of a number, of a digit, of one byte: what is read, or told, by whatever budget. -/
import Derived.Test.YthljhebbblhakaaGreatDoorEWords
import Derived.Test.YthljhebbblhakaaGreatDoorProg
import Derived.WalkKit
import Derived.WalkSpells
import Derived.WalkLawsBesides
import Derived.Lib.Hide
import Derived.Laws.OwnMore
import Derived.Deep.AppendLies
import Derived.Deep.Draws
import Derived.Deep.Onto
import Derived.Deep.AppendSrc
import Derived.Deep.QuietTactic
import Derived.BigQuiet
import Derived.Deep.LoopGhost
import Derived.Deep.CutBlock
import Derived.Deep.DeepCutAuto
import Derived.Deep.Light
import Derived.Deep.RegionWith
import Derived.Test.YthljhebbblhakaaGreatDoorESync
import Derived.Defers
import Derived.Laws.Pointers
import Derived.Laws.LoneSync
import Derived.Laws.NewBlocks
import Derived.RegionTactic
import Derived.RegionCalls
import Derived.ChangeAlike
import Derived.Laws.Rows
import Derived.StillTailTactics
import Derived.Test.YthljhebbblhakaaGreatDoorEBits
import Derived.Laws.BitsAllLaws
import Derived.Laws.BitsLemmas
import Derived.Test.YthljhebbblhakaaGreatDoorEPnmHead
import Derived.Test.YthljhebbblhakaaGreatDoorETok
import Derived.WalkMore
import Derived.ScopeJumps
import Derived.Test.YthljhebbblhakaaGreatDoorETok2
import Derived.Test.YthljhebbblhakaaGreatDoorETok3
import Derived.Test.YthljhebbblhakaaGreatDoorETok4
import Derived.Test.YthljhebbblhakaaGreatDoorENum
import Derived.Lib.Mul64
import Derived.Laws.Bits64b
import Derived.Deep.OwnRows
import Derived.Test.YthljhebbblhakaaGreatDoorEBuf
import Derived.Lib.BufferWrite
import Derived.Test.YthljhebbblhakaaGreatDoorERas
import Derived.Test.YthljhebbblhakaaGreatDoorEPnmW
import Derived.Test.YthljhebbblhakaaGreatDoorEPnmBst
import Derived.Test.YthljhebbblhakaaGreatDoorEPnmD
namespace Go.Proofs.YthljhebbblhakaaGreatDoor
open Go.RowKit
set_option linter.unusedVariables false
set_option linter.unusedSimpArgs false

set_option maxRecDepth 100000 in
set_option maxHeartbeats 1000000 in
theorem tokDigit_end {w : World} {p g : Nat} {s : ByteArray} {a k f : Nat} {x : Led} (h : SrcAt w p g s 0 s.size a) (o : SrcOk s 0 s.size a) (hl : LedAt w g (x.used k)) (hx : x.reason = 0) (ok : x.Ok) (hf : f = a + overN false ((nats s).drop a)) (hs : x.steps + k + (f - a + 2) ≤ x.S) (hfs : f = s.size) :
    Calls Tryz.prog 80 #[.pointer (some ⟨p, 0, none⟩)] w fun e w' => e = .returned (.tuple #[.int .i64 0, .int .i64 0, .agg #[.int .i64 1, .int .i64 3, .int .i64 (s.size : Int)]]) ∧ SrcAt w' p g s 0 s.size s.size ∧ LedAt w' g (x.used (k + (f - a + 2))) ∧ Turn [p, g] w w' := by
  have hpl := Blk.lt h
  have hgl := Blk.lt hl
  have hpg := h.ne hl
  have hal := o.at_
  have hsm := o.sm
  have hlen := nats_len s
  have S1 : SrcAt (w.alloc (.cells #[.int .i64 0, .int .i64 0, .int .i64 0] 33)) p g s 0 s.size a := Blk.alloc h _
  have L1 : LedAt (w.alloc (.cells #[.int .i64 0, .int .i64 0, .int .i64 0] 33)) g (x.used k) := Blk.alloc hl _
  have F1 : FL (w.alloc (.cells #[.int .i64 0, .int .i64 0, .int .i64 0] 33)) w.heap.size 0 0 0 := Blk.new _ _ _
  have T1 : Turn [p, g] w (w.alloc (.cells #[.int .i64 0, .int .i64 0, .int .i64 0] 33)) := (Turn.refl _ _).alloc _
  obtain ⟨c, hc⟩ : ∃ c, c = overN false ((nats s).drop a) := ⟨_, rfl⟩
  rw [← hc] at hf
  have HF1 := Lib.hid (tokFirst_end S1 o L1 hx ok hc.symm (by omega) (by omega))
  have HQ : Hid (k + c + 2 = k + (f - a + 2)) := Lib.hid (by omega)
  clear h hl hx ok hs o S1 L1 hc hf
  go_enter Tryz.func80, Tryz.ntmps80
  go_wp2_with (first
    | (go_at_call 96; refine HF1.out.mono ?_; rintro e w1 ⟨rfl, s1, l1, t01⟩; have t1 := T1.trans t01; have f1 : FL w1 w.heap.size 0 0 0 := FL.turn F1 t01 (not_two (by omega) (by omega)); have c0 := FL.c0 f1; have c1 := FL.c1 f1; have c2 := FL.c2 f1; have z0 := Blk.frozen f1 0; have z1 := Blk.frozen f1 1; have z2 := Blk.frozen f1 2; have b3 := Blk.lt f1; have s2 := SrcAt.set3 (u := .int .i64 1) (v := .int .i64 3) (x := .int .i64 (s.size : Int)) s1 (show p ≠ w.heap.size by omega); have l2 := LedAt.set3 (u := .int .i64 1) (v := .int .i64 3) (x := .int .i64 (s.size : Int)) l1 (show g ≠ w.heap.size by omega); have f2 := FL.store (k' := 1) (f' := 3) (a' := (s.size : Int)) f1; have t2 := Turn.set3 (b := w.heap.size) (u := .int .i64 1) (v := .int .i64 3) (x := .int .i64 (s.size : Int)) t1 (.inr (Nat.le_refl _))))
  have k0 := FL.c0 f2
  have k1 := FL.c1 f2
  have k2 := FL.c2 f2
  have y0 := Blk.frozen f2 0
  have y1 := Blk.frozen f2 1
  have y2 := Blk.frozen f2 2
  have b4 := Blk.lt f2
  clear c0 c1 c2 z0 z1 z2 b3
  generalize (((w1.setCell ⟨w.heap.size, 0, none⟩ (.int .i64 1)).setCell ⟨w.heap.size, 1, none⟩ (.int .i64 3)).setCell ⟨w.heap.size, 2, none⟩ (.int .i64 (s.size : Int))) = wv at s2 l2 f2 t2 k0 k1 k2 y0 y1 y2 b4 ⊢
  go_region
  all_goals go_wp2_with fail
  have fz := FL.store (k' := 1) (f' := 3) (a' := (s.size : Int)) f2
  have sz := SrcAt.set3 (u := .int .i64 1) (v := .int .i64 3) (x := .int .i64 (s.size : Int)) s2 (show p ≠ w.heap.size by omega)
  have lz := LedAt.set3 (u := .int .i64 1) (v := .int .i64 3) (x := .int .i64 (s.size : Int)) l2 (show g ≠ w.heap.size by omega)
  have tz := Turn.set3 (b := w.heap.size) (u := .int .i64 1) (v := .int .i64 3) (x := .int .i64 (s.size : Int)) t2 (.inr (Nat.le_refl _))
  replace fz := Blk.drew fz
  replace sz := Blk.drew sz
  replace lz := Blk.drew lz
  replace tz := Turn.drew tz
  generalize (((wv.setCell ⟨w.heap.size, 0, none⟩ (.int .i64 1)).setCell ⟨w.heap.size, 1, none⟩ (.int .i64 3)).setCell ⟨w.heap.size, 2, none⟩ (.int .i64 (s.size : Int))).drew = we at fz sz lz tz ⊢
  have e0 := FL.c0 fz
  have e1 := FL.c1 fz
  have e2 := FL.c2 fz
  exact bodyPost_ret (v := .tuple #[.int .i64 0, .int .i64 0, .agg #[.int .i64 1, .int .i64 3, .int .i64 (s.size : Int)]]) (by simp [results, Tryz.results80, go_sem, e0, e1, e2]) rfl ⟨rfl, sz, by rw [← HQ.out]; exact lz, tz⟩

set_option maxRecDepth 100000 in
set_option maxHeartbeats 1000000 in
theorem tokDigit_none {w : World} {p g : Nat} {s : ByteArray} {a k f : Nat} {x : Led} (h : SrcAt w p g s 0 s.size a) (o : SrcOk s 0 s.size a) (hl : LedAt w g (x.used k)) (hx : x.reason = 0) (ok : x.Ok) (hf : f = a + overN false ((nats s).drop a)) (hs : x.steps + k + (f - a + 2) ≤ x.S) (hfs : f < s.size) (hd : ¬ (bat s f = 48 ∨ bat s f = 49)) :
    Calls Tryz.prog 80 #[.pointer (some ⟨p, 0, none⟩)] w fun e w' => e = .returned (.tuple #[.int .i64 0, .int .i64 0, .agg #[.int .i64 2, .int .i64 3, .int .i64 (f : Int)]]) ∧ SrcAt w' p g s 0 s.size (f + 1) ∧ LedAt w' g (x.used (k + (f - a + 2))) ∧ Turn [p, g] w w' := by
  have hpl := Blk.lt h
  have hgl := Blk.lt hl
  have hpg := h.ne hl
  have hal := o.at_
  have hsm := o.sm
  have hlen := nats_len s
  have S1 : SrcAt (w.alloc (.cells #[.int .i64 0, .int .i64 0, .int .i64 0] 33)) p g s 0 s.size a := Blk.alloc h _
  have L1 : LedAt (w.alloc (.cells #[.int .i64 0, .int .i64 0, .int .i64 0] 33)) g (x.used k) := Blk.alloc hl _
  have F1 : FL (w.alloc (.cells #[.int .i64 0, .int .i64 0, .int .i64 0] 33)) w.heap.size 0 0 0 := Blk.new _ _ _
  have T1 : Turn [p, g] w (w.alloc (.cells #[.int .i64 0, .int .i64 0, .int .i64 0] 33)) := (Turn.refl _ _).alloc _
  obtain ⟨c, hc⟩ : ∃ c, c = overN false ((nats s).drop a) := ⟨_, rfl⟩
  rw [← hc] at hf
  have HF0 := tokFirst_yes S1 o L1 hx ok hc.symm (by omega) (by omega)
  rw [← hf] at HF0
  have HF1 := Lib.hid HF0
  have HQ : Hid (k + c + 2 = k + (f - a + 2)) := Lib.hid (by omega)
  clear h hl hx ok hs o S1 L1 hc hf HF0
  have k8 : (((bat s f : Nat) : Int) != 48) = true := bne_iff_ne.2 (by omega)
  have k9 : (((bat s f : Nat) : Int) != 49) = true := bne_iff_ne.2 (by omega)
  have j8 : ¬ ((bat s f : Nat) : Int) = 48 := by omega
  have j9 : ¬ ((bat s f : Nat) : Int) = 49 := by omega
  clear hd
  go_enter Tryz.func80, Tryz.ntmps80
  go_wp2_with (first
    | (go_at_call 96; refine HF1.out.mono ?_; rintro e w1 ⟨rfl, s1, l1, t01⟩; have t1 := T1.trans t01; have f1 : FL w1 w.heap.size 0 0 0 := FL.turn F1 t01 (not_two (by omega) (by omega)); have c0 := FL.c0 f1; have c1 := FL.c1 f1; have c2 := FL.c2 f1; have z0 := Blk.frozen f1 0; have z1 := Blk.frozen f1 1; have z2 := Blk.frozen f1 2; have b3 := Blk.lt f1; have s2 := SrcAt.set3 (u := .int .i64 0) (v := .int .i64 0) (x := .int .i64 0) s1 (show p ≠ w.heap.size by omega); have l2 := LedAt.set3 (u := .int .i64 0) (v := .int .i64 0) (x := .int .i64 0) l1 (show g ≠ w.heap.size by omega); have f2 := FL.store (k' := 0) (f' := 0) (a' := 0) f1; have t2 := Turn.set3 (b := w.heap.size) (u := .int .i64 0) (v := .int .i64 0) (x := .int .i64 0) t1 (.inr (Nat.le_refl _)))
    | (go_at_call 73; refine (wrong_any _ _).mono ?_; rintro e w4 ⟨rfl, b4⟩; have t04 : Turn [p, g] _ w4 := Turn.of_below b4; have t4 := t2.trans t04; have s4 := Blk.below s2 b4 (Blk.lt s2); have l4 := Blk.below l2 b4 (Blk.lt l2); have f4 : FL w4 w.heap.size 0 0 0 := Blk.below f2 b4 (Blk.lt f2); clear c0 c1 c2 z0 z1 z2 b3; have c0 := FL.c0 f4; have c1 := FL.c1 f4; have c2 := FL.c2 f4; have z0 := Blk.frozen f4 0; have z1 := Blk.frozen f4 1; have z2 := Blk.frozen f4 2; have b3 := Blk.lt f4))
  have fz := FL.store (k' := 2) (f' := 3) (a' := (f : Int)) f4
  have sz := SrcAt.set3 (u := .int .i64 2) (v := .int .i64 3) (x := .int .i64 (f : Int)) s4 (show p ≠ w.heap.size by omega)
  have lz := LedAt.set3 (u := .int .i64 2) (v := .int .i64 3) (x := .int .i64 (f : Int)) l4 (show g ≠ w.heap.size by omega)
  have tz := Turn.set3 (b := w.heap.size) (u := .int .i64 2) (v := .int .i64 3) (x := .int .i64 (f : Int)) t4 (.inr (Nat.le_refl _))
  generalize (((w4.setCell ⟨w.heap.size, 0, none⟩ (.int .i64 2)).setCell ⟨w.heap.size, 1, none⟩ (.int .i64 3)).setCell ⟨w.heap.size, 2, none⟩ (.int .i64 (f : Int))) = we at fz sz lz tz ⊢
  have e0 := fz.c0
  have e1 := fz.c1
  have e2 := fz.c2
  exact bodyPost_ret (v := .tuple #[.int .i64 0, .int .i64 0, .agg #[.int .i64 2, .int .i64 3, .int .i64 (f : Int)]]) (by simp [results, Tryz.results80, go_sem, e0, e1, e2]) rfl ⟨rfl, sz, by rw [← HQ.out]; exact lz, tz⟩

set_option maxRecDepth 100000 in
set_option maxHeartbeats 1000000 in
theorem tokDigit_yes48 {w : World} {p g : Nat} {s : ByteArray} {a k f : Nat} {x : Led} (h : SrcAt w p g s 0 s.size a) (o : SrcOk s 0 s.size a) (hl : LedAt w g (x.used k)) (hx : x.reason = 0) (ok : x.Ok) (hf : f = a + overN false ((nats s).drop a)) (hs : x.steps + k + (f - a + 2) ≤ x.S) (hfs : f < s.size) (hd : bat s f = 48) :
    Calls Tryz.prog 80 #[.pointer (some ⟨p, 0, none⟩)] w fun e w' => e = .returned (.tuple #[.int .i64 0, .int .i64 (f : Int), .agg #[.int .i64 0, .int .i64 0, .int .i64 0]]) ∧ SrcAt w' p g s 0 s.size (f + 1) ∧ LedAt w' g (x.used (k + (f - a + 2))) ∧ Turn [p, g] w w' := by
  have hpl := Blk.lt h
  have hgl := Blk.lt hl
  have hpg := h.ne hl
  have hal := o.at_
  have hsm := o.sm
  have hlen := nats_len s
  have S1 : SrcAt (w.alloc (.cells #[.int .i64 0, .int .i64 0, .int .i64 0] 33)) p g s 0 s.size a := Blk.alloc h _
  have L1 : LedAt (w.alloc (.cells #[.int .i64 0, .int .i64 0, .int .i64 0] 33)) g (x.used k) := Blk.alloc hl _
  have F1 : FL (w.alloc (.cells #[.int .i64 0, .int .i64 0, .int .i64 0] 33)) w.heap.size 0 0 0 := Blk.new _ _ _
  have T1 : Turn [p, g] w (w.alloc (.cells #[.int .i64 0, .int .i64 0, .int .i64 0] 33)) := (Turn.refl _ _).alloc _
  obtain ⟨c, hc⟩ : ∃ c, c = overN false ((nats s).drop a) := ⟨_, rfl⟩
  rw [← hc] at hf
  have HF0 := tokFirst_yes S1 o L1 hx ok hc.symm (by omega) (by omega)
  rw [← hf] at HF0
  rw [hd] at HF0
  have HF1 := Lib.hid HF0
  have HQ : Hid (k + c + 2 = k + (f - a + 2)) := Lib.hid (by omega)
  clear h hl hx ok hs o S1 L1 hc hf HF0
  clear hd
  go_enter Tryz.func80, Tryz.ntmps80
  go_wp2_with (first
    | (go_at_call 96; refine HF1.out.mono ?_; rintro e w1 ⟨rfl, s1, l1, t01⟩; have t1 := T1.trans t01; have f1 : FL w1 w.heap.size 0 0 0 := FL.turn F1 t01 (not_two (by omega) (by omega)); have c0 := FL.c0 f1; have c1 := FL.c1 f1; have c2 := FL.c2 f1; have z0 := Blk.frozen f1 0; have z1 := Blk.frozen f1 1; have z2 := Blk.frozen f1 2; have b3 := Blk.lt f1; have s2 := SrcAt.set3 (u := .int .i64 0) (v := .int .i64 0) (x := .int .i64 0) s1 (show p ≠ w.heap.size by omega); have l2 := LedAt.set3 (u := .int .i64 0) (v := .int .i64 0) (x := .int .i64 0) l1 (show g ≠ w.heap.size by omega); have f2 := FL.store (k' := 0) (f' := 0) (a' := 0) f1; have t2 := Turn.set3 (b := w.heap.size) (u := .int .i64 0) (v := .int .i64 0) (x := .int .i64 0) t1 (.inr (Nat.le_refl _))))
  generalize (((w1.setCell ⟨w.heap.size, 0, none⟩ (.int .i64 0)).setCell ⟨w.heap.size, 1, none⟩ (.int .i64 0)).setCell ⟨w.heap.size, 2, none⟩ (.int .i64 0)) = wv at s2 l2 f2 t2 ⊢
  have fz := FL.store (k' := 0) (f' := 0) (a' := 0) f2
  have sz := SrcAt.set3 (u := .int .i64 0) (v := .int .i64 0) (x := .int .i64 0) s2 (show p ≠ w.heap.size by omega)
  have lz := LedAt.set3 (u := .int .i64 0) (v := .int .i64 0) (x := .int .i64 0) l2 (show g ≠ w.heap.size by omega)
  have tz := Turn.set3 (b := w.heap.size) (u := .int .i64 0) (v := .int .i64 0) (x := .int .i64 0) t2 (.inr (Nat.le_refl _))
  generalize (((wv.setCell ⟨w.heap.size, 0, none⟩ (.int .i64 0)).setCell ⟨w.heap.size, 1, none⟩ (.int .i64 0)).setCell ⟨w.heap.size, 2, none⟩ (.int .i64 0)) = we at fz sz lz tz ⊢
  have e0 := fz.c0
  have e1 := fz.c1
  have e2 := fz.c2
  exact bodyPost_ret (v := .tuple #[.int .i64 0, .int .i64 (f : Int), .agg #[.int .i64 0, .int .i64 0, .int .i64 0]]) (by simp [results, Tryz.results80, go_sem, e0, e1, e2]) rfl ⟨rfl, sz, by rw [← HQ.out]; exact lz, tz⟩

set_option maxRecDepth 100000 in
set_option maxHeartbeats 1000000 in
theorem tokDigit_yes49 {w : World} {p g : Nat} {s : ByteArray} {a k f : Nat} {x : Led} (h : SrcAt w p g s 0 s.size a) (o : SrcOk s 0 s.size a) (hl : LedAt w g (x.used k)) (hx : x.reason = 0) (ok : x.Ok) (hf : f = a + overN false ((nats s).drop a)) (hs : x.steps + k + (f - a + 2) ≤ x.S) (hfs : f < s.size) (hd : bat s f = 49) :
    Calls Tryz.prog 80 #[.pointer (some ⟨p, 0, none⟩)] w fun e w' => e = .returned (.tuple #[.int .i64 1, .int .i64 (f : Int), .agg #[.int .i64 0, .int .i64 0, .int .i64 0]]) ∧ SrcAt w' p g s 0 s.size (f + 1) ∧ LedAt w' g (x.used (k + (f - a + 2))) ∧ Turn [p, g] w w' := by
  have hpl := Blk.lt h
  have hgl := Blk.lt hl
  have hpg := h.ne hl
  have hal := o.at_
  have hsm := o.sm
  have hlen := nats_len s
  have S1 : SrcAt (w.alloc (.cells #[.int .i64 0, .int .i64 0, .int .i64 0] 33)) p g s 0 s.size a := Blk.alloc h _
  have L1 : LedAt (w.alloc (.cells #[.int .i64 0, .int .i64 0, .int .i64 0] 33)) g (x.used k) := Blk.alloc hl _
  have F1 : FL (w.alloc (.cells #[.int .i64 0, .int .i64 0, .int .i64 0] 33)) w.heap.size 0 0 0 := Blk.new _ _ _
  have T1 : Turn [p, g] w (w.alloc (.cells #[.int .i64 0, .int .i64 0, .int .i64 0] 33)) := (Turn.refl _ _).alloc _
  obtain ⟨c, hc⟩ : ∃ c, c = overN false ((nats s).drop a) := ⟨_, rfl⟩
  rw [← hc] at hf
  have HF0 := tokFirst_yes S1 o L1 hx ok hc.symm (by omega) (by omega)
  rw [← hf] at HF0
  rw [hd] at HF0
  have HF1 := Lib.hid HF0
  have HQ : Hid (k + c + 2 = k + (f - a + 2)) := Lib.hid (by omega)
  clear h hl hx ok hs o S1 L1 hc hf HF0
  clear hd
  go_enter Tryz.func80, Tryz.ntmps80
  go_wp2_with (first
    | (go_at_call 96; refine HF1.out.mono ?_; rintro e w1 ⟨rfl, s1, l1, t01⟩; have t1 := T1.trans t01; have f1 : FL w1 w.heap.size 0 0 0 := FL.turn F1 t01 (not_two (by omega) (by omega)); have c0 := FL.c0 f1; have c1 := FL.c1 f1; have c2 := FL.c2 f1; have z0 := Blk.frozen f1 0; have z1 := Blk.frozen f1 1; have z2 := Blk.frozen f1 2; have b3 := Blk.lt f1; have s2 := SrcAt.set3 (u := .int .i64 0) (v := .int .i64 0) (x := .int .i64 0) s1 (show p ≠ w.heap.size by omega); have l2 := LedAt.set3 (u := .int .i64 0) (v := .int .i64 0) (x := .int .i64 0) l1 (show g ≠ w.heap.size by omega); have f2 := FL.store (k' := 0) (f' := 0) (a' := 0) f1; have t2 := Turn.set3 (b := w.heap.size) (u := .int .i64 0) (v := .int .i64 0) (x := .int .i64 0) t1 (.inr (Nat.le_refl _))))
  generalize (((w1.setCell ⟨w.heap.size, 0, none⟩ (.int .i64 0)).setCell ⟨w.heap.size, 1, none⟩ (.int .i64 0)).setCell ⟨w.heap.size, 2, none⟩ (.int .i64 0)) = wv at s2 l2 f2 t2 ⊢
  have fz := FL.store (k' := 0) (f' := 0) (a' := 0) f2
  have sz := SrcAt.set3 (u := .int .i64 0) (v := .int .i64 0) (x := .int .i64 0) s2 (show p ≠ w.heap.size by omega)
  have lz := LedAt.set3 (u := .int .i64 0) (v := .int .i64 0) (x := .int .i64 0) l2 (show g ≠ w.heap.size by omega)
  have tz := Turn.set3 (b := w.heap.size) (u := .int .i64 0) (v := .int .i64 0) (x := .int .i64 0) t2 (.inr (Nat.le_refl _))
  generalize (((wv.setCell ⟨w.heap.size, 0, none⟩ (.int .i64 0)).setCell ⟨w.heap.size, 1, none⟩ (.int .i64 0)).setCell ⟨w.heap.size, 2, none⟩ (.int .i64 0)) = we at fz sz lz tz ⊢
  have e0 := fz.c0
  have e1 := fz.c1
  have e2 := fz.c2
  exact bodyPost_ret (v := .tuple #[.int .i64 1, .int .i64 (f : Int), .agg #[.int .i64 0, .int .i64 0, .int .i64 0]]) (by simp [results, Tryz.results80, go_sem, e0, e1, e2]) rfl ⟨rfl, sz, by rw [← HQ.out]; exact lz, tz⟩

end Go.Proofs.YthljhebbblhakaaGreatDoor
namespace Go.Proofs.YthljhebbblhakaaGreatDoor
open Go.RowKit
set_option linter.unusedVariables false
set_option linter.unusedSimpArgs false

section
variable {w0 w w' : World} {p g r b d f fr t a a' W H : Nat} {s : ByteArray} {l l' : List UInt8} {x y : Led} {i : Nat} {tt : TypeId} {cs : Array Value}
theorem PixI.led (P : PixI w0 w p g r b d f fr t a W H s l x) (k : Turn [g] w w') (l' : LedAt w' g y) : PixI w0 w' p g r b d f fr t a W H s l y :=
  P.take (k.mono (by simp)) (P.S.turn k (by simpa using Blk.ne_ P.S P.L (by decide))) l'
end
end Go.Proofs.YthljhebbblhakaaGreatDoor
namespace Go.Proofs.YthljhebbblhakaaGreatDoor
open Go.RowKit
set_option linter.unusedVariables false
set_option linter.unusedSimpArgs false

set_option maxRecDepth 100000 in
set_option maxHeartbeats 1000000 in
theorem tokDigit_spent {w : World} {p g : Nat} {s : ByteArray} {a k f r : Nat} {x : Led} (h : SrcAt w p g s 0 s.size a) (o : SrcOk s 0 s.size a) (hl : LedAt w g (x.used k)) (hx : x.reason = 0) (ok : x.Ok) (hf : f = a + overN false ((nats s).drop a)) (hs : x.steps + k + r = x.S) (hr : r < f - a + 2) :
    Calls Tryz.prog 80 #[.pointer (some ⟨p, 0, none⟩)] w fun e w' => ∃ z : Nat, (z ≤ s.size ∧ z = a + min r (f - a)) ∧ e = .returned (.tuple #[.int .i64 0, .int .i64 0, .agg #[.int .i64 4, .int .i64 3, .int .i64 (z : Int)]]) ∧ LedAt w' g ((x.used (k + r)).refused 3 1) ∧ Turn [p, g] w w' := by
  have hpl := Blk.lt h
  have hgl := Blk.lt hl
  have hpg := h.ne hl
  have hal := o.at_
  have hsm := o.sm
  have hlen := nats_len s
  have S1 : SrcAt (w.alloc (.cells #[.int .i64 0, .int .i64 0, .int .i64 0] 33)) p g s 0 s.size a := Blk.alloc h _
  have L1 : LedAt (w.alloc (.cells #[.int .i64 0, .int .i64 0, .int .i64 0] 33)) g (x.used k) := Blk.alloc hl _
  have F1 : FL (w.alloc (.cells #[.int .i64 0, .int .i64 0, .int .i64 0] 33)) w.heap.size 0 0 0 := Blk.new _ _ _
  have T1 : Turn [p, g] w (w.alloc (.cells #[.int .i64 0, .int .i64 0, .int .i64 0] 33)) := (Turn.refl _ _).alloc _
  obtain ⟨c, hc⟩ : ∃ c, c = overN false ((nats s).drop a) := ⟨_, rfl⟩
  rw [← hc] at hf
  have HCF : Hid (c = f - a) := Lib.hid (by omega)
  have HF1 := Lib.hid (tokFirst_spent S1 o L1 hx ok hc.symm hs (by omega))
  clear h hl hx ok hs o S1 L1 hc hf
  go_enter Tryz.func80, Tryz.ntmps80
  go_wp2_with (first
    | (go_at_call 96; refine HF1.out.mono ?_; rintro e w1 ⟨z, hzs, rfl, s1, l1, t01⟩; have HZS := Lib.hid hzs; clear hzs; have t1 := T1.trans t01; have f1 : FL w1 w.heap.size 0 0 0 := FL.turn F1 t01 (not_two (by omega) (by omega)); have c0 := FL.c0 f1; have c1 := FL.c1 f1; have c2 := FL.c2 f1; have z0 := Blk.frozen f1 0; have z1 := Blk.frozen f1 1; have z2 := Blk.frozen f1 2; have b3 := Blk.lt f1; have s2 := SrcAt.set3 (u := .int .i64 4) (v := .int .i64 3) (x := .int .i64 (z : Int)) s1 (show p ≠ w.heap.size by omega); have l2 := LedAt.set3 (u := .int .i64 4) (v := .int .i64 3) (x := .int .i64 (z : Int)) l1 (show g ≠ w.heap.size by omega); have f2 := FL.store (k' := 4) (f' := 3) (a' := (z : Int)) f1; have t2 := Turn.set3 (b := w.heap.size) (u := .int .i64 4) (v := .int .i64 3) (x := .int .i64 (z : Int)) t1 (.inr (Nat.le_refl _))))
  have k0 := FL.c0 f2
  have k1 := FL.c1 f2
  have k2 := FL.c2 f2
  have y0 := Blk.frozen f2 0
  have y1 := Blk.frozen f2 1
  have y2 := Blk.frozen f2 2
  have b4 := Blk.lt f2
  clear c0 c1 c2 z0 z1 z2 b3
  generalize (((w1.setCell ⟨w.heap.size, 0, none⟩ (.int .i64 4)).setCell ⟨w.heap.size, 1, none⟩ (.int .i64 3)).setCell ⟨w.heap.size, 2, none⟩ (.int .i64 (z : Int))) = wv at s2 l2 f2 t2 k0 k1 k2 y0 y1 y2 b4 ⊢
  go_region
  all_goals go_wp2_with fail
  have fz := FL.store (k' := 4) (f' := 3) (a' := (z : Int)) f2
  have sz := SrcAt.set3 (u := .int .i64 4) (v := .int .i64 3) (x := .int .i64 (z : Int)) s2 (show p ≠ w.heap.size by omega)
  have lz := LedAt.set3 (u := .int .i64 4) (v := .int .i64 3) (x := .int .i64 (z : Int)) l2 (show g ≠ w.heap.size by omega)
  have tz := Turn.set3 (b := w.heap.size) (u := .int .i64 4) (v := .int .i64 3) (x := .int .i64 (z : Int)) t2 (.inr (Nat.le_refl _))
  replace fz := Blk.drew fz
  replace sz := Blk.drew sz
  replace lz := Blk.drew lz
  replace tz := Turn.drew tz
  generalize (((wv.setCell ⟨w.heap.size, 0, none⟩ (.int .i64 4)).setCell ⟨w.heap.size, 1, none⟩ (.int .i64 3)).setCell ⟨w.heap.size, 2, none⟩ (.int .i64 (z : Int))).drew = we at fz sz lz tz ⊢
  have e0 := FL.c0 fz
  have e1 := FL.c1 fz
  have e2 := FL.c2 fz
  exact bodyPost_ret (v := .tuple #[.int .i64 0, .int .i64 0, .agg #[.int .i64 4, .int .i64 3, .int .i64 (z : Int)]]) (by simp [results, Tryz.results80, go_sem, e0, e1, e2]) rfl ⟨z, ⟨HZS.out.1, by rw [← HCF.out]; exact HZS.out.2⟩, rfl, lz, tz⟩
section
variable {w : World} {p g a : Nat} {s : ByteArray} {x : Led}
theorem digC (o : SrcOk s 0 s.size a) (ok : x.Ok) (hx : x.reason = 0) :
    Ways (fun w Q => Calls Tryz.prog 80 #[.pointer (some ⟨p, 0, none⟩)] w Q) p g s a x (digD s a) tokNo tokYes (fun r => r.2.2) (fun r => digitAt (nats s) a = ⟨r.1, r.2.1, r.2.2, 0, 0⟩) := by
  have hal := o.at_
  obtain ⟨f1, f2⟩ := nFirst_le hal
  have hu : ∀ w, LedAt w g x → LedAt w g (x.used 0) := fun w hl => by rw [Led.used_zero]; exact hl
  obtain ⟨f, hf⟩ : ∃ f, nFirst (nats s) a = f := ⟨_, rfl⟩
  have hf' : f = a + overN false ((nats s).drop a) := hf.symm
  have hfs : f ≤ s.size := by omega
  have hlen := nats_len s
  obtain ⟨c, hc⟩ : ∃ c, overN false ((nats s).drop a) = c := ⟨_, rfl⟩
  have hfa : f - a = c := by omega
  have hD' : ∀ z k, digD s a z k = stepsD z a (c + 1) (stepsD z f 1 (gotD z (digitAt (nats s) a) k)) := fun z k => by unfold digD; rw [hf, hc]
  by_cases hen : x.steps + ((c + 1 + 1 : Nat) : Int) ≤ x.S
  · have hyok : (x.used (c + 1 + 1)).Ok := Led.used_ok ok hen
    have run : ∀ z k, (digD s a z k).run x = (gotD z (digitAt (nats s) a) k).run (x.used (c + 1 + 1)) := fun z k => by rw [hD']; exact two_yes hx hen
    have h0e : 0 + (f - a + 2) = c + 1 + 1 := by omega
    by_cases hlt : f < s.size
    · by_cases hd : bat s f = 48 ∨ bat s f = 49
      · have hN : digitAt (nats s) a = ⟨bat s f - 48, f, f + 1, 0, 0⟩ := by
          unfold digitAt
          simp only
          rw [← hf', hlen, if_neg (by omega), if_pos (show (nats s).getD f 0 = 48 ∨ (nats s).getD f 0 = 49 from hd)]
          rfl
        rcases hd with hd | hd
        · rw [hd] at hN
          refine .inr ⟨(0, f, f + 1), _, hN, hyok, rfl, hx, fun z k => by rw [run, hN]; rfl, fun w h hl => ?_⟩
          refine (tokDigit_yes48 h o (hu _ hl) hx ok hf' (by omega) hlt hd).mono ?_
          rintro e w' ⟨rfl, s1, l1, t1⟩
          rw [h0e] at l1
          exact ⟨rfl, s1, l1, t1⟩
        · rw [hd] at hN
          refine .inr ⟨(1, f, f + 1), _, hN, hyok, rfl, hx, fun z k => by rw [run, hN]; rfl, fun w h hl => ?_⟩
          refine (tokDigit_yes49 h o (hu _ hl) hx ok hf' (by omega) hlt hd).mono ?_
          rintro e w' ⟨rfl, s1, l1, t1⟩
          rw [h0e] at l1
          exact ⟨rfl, s1, l1, t1⟩
      · have hN : digitAt (nats s) a = ⟨0, 0, 0, 2, f⟩ := by
          unfold digitAt
          simp only
          rw [← hf', hlen, if_neg (by omega), if_neg (show ¬ ((nats s).getD f 0 = 48 ∨ (nats s).getD f 0 = 49) from hd)]
        refine .inl ⟨2, f, _, by decide, hyok, rfl, fun z k => by rw [run, hN]; rfl, fun w h hl => ?_⟩
        refine (tokDigit_none h o (hu _ hl) hx ok hf' (by omega) hlt hd).mono ?_
        rintro e w' ⟨rfl, s1, l1, t1⟩
        rw [h0e] at l1
        exact ⟨rfl, l1, t1⟩
    · have hN : digitAt (nats s) a = ⟨0, 0, 0, 1, s.size⟩ := by
        unfold digitAt
        simp only
        rw [← hf', hlen, if_pos (by omega)]
      refine .inl ⟨1, s.size, _, by decide, hyok, rfl, fun z k => by rw [run, hN]; rfl, fun w h hl => ?_⟩
      refine (tokDigit_end h o (hu _ hl) hx ok hf' (by omega) (by omega)).mono ?_
      rintro e w' ⟨rfl, s1, l1, t1⟩
      rw [h0e] at l1
      exact ⟨rfl, l1, t1⟩
  · have ht := ok.t1
    obtain ⟨r, hr⟩ : ∃ r : Nat, x.steps + (r : Int) = x.S := ⟨(x.S - x.steps).toNat, by omega⟩
    obtain ⟨y1, y2⟩ := Led.used_refused ok hx hr
    have hrT : r < c + 1 + 1 := by omega
    obtain ⟨q, q2⟩ : ∃ q, q = a + min r (f - a) := ⟨_, rfl⟩
    refine .inl ⟨4, q, _, by decide, y1, y2, fun z k => ?_, fun w h hl => (tokDigit_spent (r := r) h o (hu _ hl) hx ok hf' (by omega) (by omega)).mono fun e w' ⟨q', ⟨_, hq⟩, he, l1, t1⟩ => ⟨by rw [he, hq, ← q2]; rfl, by rw [Nat.zero_add] at l1; exact l1, t1⟩⟩
    rw [hD']
    by_cases h1 : r < c + 1
    · rw [two_no1 hx hr h1, q2, hfa, Nat.min_eq_left (by omega)]
    · rw [two_no2 hx hr (by omega) hrT, q2, hfa, Nat.min_eq_right (by omega), show f + (r - (c + 1)) = a + c by omega]
end
end Go.Proofs.YthljhebbblhakaaGreatDoor
