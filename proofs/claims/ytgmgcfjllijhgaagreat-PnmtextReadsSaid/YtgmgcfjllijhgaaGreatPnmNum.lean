/- A head's number: within its limit. -/
import Derived.Test.YtgmgcfjllijhgaaGreatPnmKind
namespace Go.Proofs.YtgmgcfjllijhgaaGreat
open Go.RowKit
set_option linter.unusedVariables false
set_option linter.unusedSimpArgs false

theorem numAt_bad {w : World} {p g : Nat} {s : ByteArray} {a k kd pl : Nat} {x : Led} (h : SrcAt w p g s 0 s.size a) (o : SrcOk s 0 s.size a) (hl : LedAt w g (x.used k)) (hx : x.reason = 0) (ok : x.Ok) (hs : x.steps + k + nCost (nats s) a ≤ x.S) (hy : numberAt (nats s) a = ⟨0, 0, 0, kd, pl⟩) (hk : kd ≠ 0) :
    Calls Tryz.prog 81 #[.pointer (some ⟨p, 0, none⟩)] w fun e w' => e = .returned (.tuple #[.int .i64 0, .int .i64 0, .agg #[.int .i64 (kd : Int), .int .i64 3, .int .i64 (pl : Int)]]) ∧ LedAt w' g (x.used (k + nCost (nats s) a)) ∧ Turn [p, g] w w' := by
  rcases tokNumber_cases h o hl hx ok hs with ⟨kd2, pl2, hy2, hk2, _, _, hc⟩ | ⟨V, f, n, hy2, _, hc⟩
  · rw [hy] at hy2
    cases hy2
    exact hc
  · rw [hy] at hy2
    cases hy2
    exact absurd rfl hk
theorem numAt_ok {w : World} {p g : Nat} {s : ByteArray} {a k V f n : Nat} {x : Led} (h : SrcAt w p g s 0 s.size a) (o : SrcOk s 0 s.size a) (hl : LedAt w g (x.used k)) (hx : x.reason = 0) (ok : x.Ok) (hs : x.steps + k + nCost (nats s) a ≤ x.S) (hy : numberAt (nats s) a = ⟨V, f, n, 0, 0⟩) :
    Calls Tryz.prog 81 #[.pointer (some ⟨p, 0, none⟩)] w fun e w' => e = .returned (.tuple #[.int .i64 (V : Int), .int .i64 (f : Int), .agg #[.int .i64 0, .int .i64 0, .int .i64 0]]) ∧ SrcAt w' p g s 0 s.size n ∧ LedAt w' g (x.used (k + nCost (nats s) a)) ∧ Turn [p, g] w w' := by
  rcases tokNumber_cases h o hl hx ok hs with ⟨kd2, pl2, hy2, hk2, _, _, hc⟩ | ⟨V2, f2, n2, hy2, _, hc⟩
  · rw [hy] at hy2
    cases hy2
    exact absurd rfl hk2
  · rw [hy] at hy2
    cases hy2
    exact hc

set_option maxRecDepth 100000 in
set_option maxHeartbeats 1000000 in
theorem pnum_bad {w : World} {p g : Nat} {s : ByteArray} {a k most above kd pl V f n : Nat} {x : Led} (h : SrcAt w p g s 0 s.size a) (o : SrcOk s 0 s.size a) (hl : LedAt w g (x.used k)) (hx : x.reason = 0) (ok : x.Ok) (hs : x.steps + k + nCost (nats s) a ≤ x.S) (hm : most ≤ 100000) (hab : above ≤ 4) (hy : numberAt (nats s) a = ⟨0, 0, 0, kd, pl⟩) (hk : kd ≠ 0) :
    Calls Tryz.prog 57 #[.pointer (some ⟨p, 0, none⟩), .int .i64 (most : Int), .int .i64 (above : Int)] w fun e w' => e = .returned (.tuple #[.int .i64 0, .agg #[.int .i64 (kd : Int), .int .i64 3, .int .i64 (pl : Int)]]) ∧ LedAt w' g (x.used (k + nCost (nats s) a)) ∧ Turn [p, g] w w' := by
  have hpl := Blk.lt h
  have hgl := Blk.lt hl
  have hpg := h.ne hl
  have HS0 : SrcAt (w.alloc (.cells #[.int .i64 0, .int .i64 0, .int .i64 0] 34)) p g s 0 s.size a := Blk.alloc h _
  have HL0 : LedAt (w.alloc (.cells #[.int .i64 0, .int .i64 0, .int .i64 0] 34)) g (x.used k) := Blk.alloc hl _
  have F1 : FL (w.alloc (.cells #[.int .i64 0, .int .i64 0, .int .i64 0] 34)) w.heap.size 0 0 0 := Blk.new _ _ _
  have T1 : Turn [p, g] w (w.alloc (.cells #[.int .i64 0, .int .i64 0, .int .i64 0] 34)) := (Turn.refl _ _).alloc _
  have HN := Lib.hid (numAt_bad HS0 o HL0 hx ok hs hy hk)
  have hki : ¬ (kd : Int) = 0 := by omega
  clear h hl hx ok hs o HS0 HL0 hy
  go_enter Tryz.func57, Tryz.ntmps57
  go_wp2_with (first
    | (go_at_call 81; refine HN.out.mono ?_; rintro e w2 ⟨rfl, l2, t02⟩; have t2 := T1.trans t02; have f2 : FL w2 w.heap.size 0 0 0 := FL.turn F1 t02 (not_two (by omega) (by omega)); have c0 := FL.c0 f2; have c1 := FL.c1 f2; have c2 := FL.c2 f2; have z0 := Blk.frozen f2 0; have z1 := Blk.frozen f2 1; have z2 := Blk.frozen f2 2; have b3 := Blk.lt f2))
  go_region
  all_goals go_wp2_with fail
  have fz := FL.store (k' := (kd : Int)) (f' := 3) (a' := (pl : Int)) f2
  have lz := LedAt.set3 (u := .int .i64 (kd : Int)) (v := .int .i64 3) (x := .int .i64 (pl : Int)) l2 (show g ≠ w.heap.size by omega)
  have tz := Turn.set3 (b := w.heap.size) (u := .int .i64 (kd : Int)) (v := .int .i64 3) (x := .int .i64 (pl : Int)) t2 (.inr (Nat.le_refl _))
  have fz := Blk.alloc fz (.cells #[.int .i64 (kd : Int), .int .i64 3, .int .i64 (pl : Int)] 34)
  have lz := Blk.alloc lz (.cells #[.int .i64 (kd : Int), .int .i64 3, .int .i64 (pl : Int)] 34)
  have tz := Turn.alloc tz (.cells #[.int .i64 (kd : Int), .int .i64 3, .int .i64 (pl : Int)] 34)
  replace fz := Blk.drew fz
  replace lz := Blk.drew lz
  replace tz := Turn.drew tz
  generalize ((((w2.setCell ⟨w.heap.size, 0, none⟩ (.int .i64 (kd : Int))).setCell ⟨w.heap.size, 1, none⟩ (.int .i64 3)).setCell ⟨w.heap.size, 2, none⟩ (.int .i64 (pl : Int))).alloc (.cells #[.int .i64 (kd : Int), .int .i64 3, .int .i64 (pl : Int)] 34)).drew = we at fz lz tz ⊢
  have e0 := FL.c0 fz
  have e1 := FL.c1 fz
  have e2 := FL.c2 fz
  exact bodyPost_ret (v := .tuple #[.int .i64 0, .agg #[.int .i64 (kd : Int), .int .i64 3, .int .i64 (pl : Int)]]) (by simp [results, Tryz.results57, go_sem, e0, e1, e2]) rfl ⟨rfl, lz, tz⟩

set_option maxRecDepth 100000 in
set_option maxHeartbeats 1000000 in
theorem pnum_zero {w : World} {p g : Nat} {s : ByteArray} {a k most above kd pl V f n : Nat} {x : Led} (h : SrcAt w p g s 0 s.size a) (o : SrcOk s 0 s.size a) (hl : LedAt w g (x.used k)) (hx : x.reason = 0) (ok : x.Ok) (hs : x.steps + k + nCost (nats s) a ≤ x.S) (hm : most ≤ 100000) (hab : above ≤ 4) (hy : numberAt (nats s) a = ⟨0, f, n, 0, 0⟩) :
    Calls Tryz.prog 57 #[.pointer (some ⟨p, 0, none⟩), .int .i64 (most : Int), .int .i64 (above : Int)] w fun e w' => e = .returned (.tuple #[.int .i64 0, .agg #[.int .i64 2, .int .i64 3, .int .i64 (f : Int)]]) ∧ LedAt w' g (x.used (k + nCost (nats s) a)) ∧ Turn [p, g] w w' := by
  have hpl := Blk.lt h
  have hgl := Blk.lt hl
  have hpg := h.ne hl
  have HS0 : SrcAt (w.alloc (.cells #[.int .i64 0, .int .i64 0, .int .i64 0] 34)) p g s 0 s.size a := Blk.alloc h _
  have HL0 : LedAt (w.alloc (.cells #[.int .i64 0, .int .i64 0, .int .i64 0] 34)) g (x.used k) := Blk.alloc hl _
  have F1 : FL (w.alloc (.cells #[.int .i64 0, .int .i64 0, .int .i64 0] 34)) w.heap.size 0 0 0 := Blk.new _ _ _
  have T1 : Turn [p, g] w (w.alloc (.cells #[.int .i64 0, .int .i64 0, .int .i64 0] 34)) := (Turn.refl _ _).alloc _
  have HN := Lib.hid (numAt_ok HS0 o HL0 hx ok hs hy)
  clear h hl hx ok hs o HS0 HL0 hy
  go_enter Tryz.func57, Tryz.ntmps57
  go_wp2_with (first
    | (go_at_call 81; refine HN.out.mono ?_; rintro e w2 ⟨rfl, s2, l2, t02⟩; have t2 := T1.trans t02; have f2 : FL w2 w.heap.size 0 0 0 := FL.turn F1 t02 (not_two (by omega) (by omega)); have c0 := FL.c0 f2; have c1 := FL.c1 f2; have c2 := FL.c2 f2; have z0 := Blk.frozen f2 0; have z1 := Blk.frozen f2 1; have z2 := Blk.frozen f2 2; have b3 := Blk.lt f2)
    | (go_at_call 80; refine (pbad_any 2 (f : Int) _).mono ?_; rintro e w4 ⟨rfl, b4⟩; have b40 := below_box b4; have t4 := t2.trans (Turn.of_below (S := [p, g]) b40); have l4 := Blk.below l2 b40 (Blk.lt l2); have f4 : FL w4 w.heap.size 0 0 0 := Blk.below f2 b40 (Blk.lt f2); clear c0 c1 c2 z0 z1 z2 b3; have c0 := FL.c0 f4; have c1 := FL.c1 f4; have c2 := FL.c2 f4; have z0 := Blk.frozen f4 0; have z1 := Blk.frozen f4 1; have z2 := Blk.frozen f4 2; have b3 := Blk.lt f4))
  have fz := FL.store (k' := 2) (f' := 3) (a' := (f : Int)) f4
  have lz := LedAt.set3 (u := .int .i64 2) (v := .int .i64 3) (x := .int .i64 (f : Int)) l4 (show g ≠ w.heap.size by omega)
  have tz := Turn.set3 (b := w.heap.size) (u := .int .i64 2) (v := .int .i64 3) (x := .int .i64 (f : Int)) t4 (.inr (Nat.le_refl _))
  generalize (((w4.setCell ⟨w.heap.size, 0, none⟩ (.int .i64 2)).setCell ⟨w.heap.size, 1, none⟩ (.int .i64 3)).setCell ⟨w.heap.size, 2, none⟩ (.int .i64 (f : Int))) = we at fz lz tz ⊢
  have e0 := FL.c0 fz
  have e1 := FL.c1 fz
  have e2 := FL.c2 fz
  exact bodyPost_ret (v := .tuple #[.int .i64 0, .agg #[.int .i64 2, .int .i64 3, .int .i64 (f : Int)]]) (by simp [results, Tryz.results57, go_sem, e0, e1, e2]) rfl ⟨rfl, lz, tz⟩

set_option maxRecDepth 100000 in
set_option maxHeartbeats 1000000 in
theorem pnum_above {w : World} {p g : Nat} {s : ByteArray} {a k most above kd pl V f n : Nat} {x : Led} (h : SrcAt w p g s 0 s.size a) (o : SrcOk s 0 s.size a) (hl : LedAt w g (x.used k)) (hx : x.reason = 0) (ok : x.Ok) (hs : x.steps + k + nCost (nats s) a ≤ x.S) (hm : most ≤ 100000) (hab : above ≤ 4) (hy : numberAt (nats s) a = ⟨V, f, n, 0, 0⟩) (hV : V ≠ 0) (hmV : most < V) :
    Calls Tryz.prog 57 #[.pointer (some ⟨p, 0, none⟩), .int .i64 (most : Int), .int .i64 (above : Int)] w fun e w' => e = .returned (.tuple #[.int .i64 0, .agg #[.int .i64 (above : Int), .int .i64 3, .int .i64 (f : Int)]]) ∧ LedAt w' g (x.used (k + nCost (nats s) a)) ∧ Turn [p, g] w w' := by
  have hpl := Blk.lt h
  have hgl := Blk.lt hl
  have hpg := h.ne hl
  have HS0 : SrcAt (w.alloc (.cells #[.int .i64 0, .int .i64 0, .int .i64 0] 34)) p g s 0 s.size a := Blk.alloc h _
  have HL0 : LedAt (w.alloc (.cells #[.int .i64 0, .int .i64 0, .int .i64 0] 34)) g (x.used k) := Blk.alloc hl _
  have F1 : FL (w.alloc (.cells #[.int .i64 0, .int .i64 0, .int .i64 0] 34)) w.heap.size 0 0 0 := Blk.new _ _ _
  have T1 : Turn [p, g] w (w.alloc (.cells #[.int .i64 0, .int .i64 0, .int .i64 0] 34)) := (Turn.refl _ _).alloc _
  have HN := Lib.hid (numAt_ok HS0 o HL0 hx ok hs hy)
  have hVi : ¬ (V : Int) = 0 := by omega
  have hmi : (most : Int) < (V : Int) := by omega
  clear h hl hx ok hs o HS0 HL0 hy
  go_enter Tryz.func57, Tryz.ntmps57
  go_wp2_with (first
    | (go_at_call 81; refine HN.out.mono ?_; rintro e w2 ⟨rfl, s2, l2, t02⟩; have t2 := T1.trans t02; have f2 : FL w2 w.heap.size 0 0 0 := FL.turn F1 t02 (not_two (by omega) (by omega)); have c0 := FL.c0 f2; have c1 := FL.c1 f2; have c2 := FL.c2 f2; have z0 := Blk.frozen f2 0; have z1 := Blk.frozen f2 1; have z2 := Blk.frozen f2 2; have b3 := Blk.lt f2)
    | (go_at_call 80; refine (pbad_any (above : Int) (f : Int) _).mono ?_; rintro e w4 ⟨rfl, b4⟩; have b40 := below_box b4; have t4 := t2.trans (Turn.of_below (S := [p, g]) b40); have l4 := Blk.below l2 b40 (Blk.lt l2); have f4 : FL w4 w.heap.size 0 0 0 := Blk.below f2 b40 (Blk.lt f2); clear c0 c1 c2 z0 z1 z2 b3; have c0 := FL.c0 f4; have c1 := FL.c1 f4; have c2 := FL.c2 f4; have z0 := Blk.frozen f4 0; have z1 := Blk.frozen f4 1; have z2 := Blk.frozen f4 2; have b3 := Blk.lt f4))
  have fz := FL.store (k' := (above : Int)) (f' := 3) (a' := (f : Int)) f4
  have lz := LedAt.set3 (u := .int .i64 (above : Int)) (v := .int .i64 3) (x := .int .i64 (f : Int)) l4 (show g ≠ w.heap.size by omega)
  have tz := Turn.set3 (b := w.heap.size) (u := .int .i64 (above : Int)) (v := .int .i64 3) (x := .int .i64 (f : Int)) t4 (.inr (Nat.le_refl _))
  generalize (((w4.setCell ⟨w.heap.size, 0, none⟩ (.int .i64 (above : Int))).setCell ⟨w.heap.size, 1, none⟩ (.int .i64 3)).setCell ⟨w.heap.size, 2, none⟩ (.int .i64 (f : Int))) = we at fz lz tz ⊢
  have e0 := FL.c0 fz
  have e1 := FL.c1 fz
  have e2 := FL.c2 fz
  exact bodyPost_ret (v := .tuple #[.int .i64 0, .agg #[.int .i64 (above : Int), .int .i64 3, .int .i64 (f : Int)]]) (by simp [results, Tryz.results57, go_sem, e0, e1, e2]) rfl ⟨rfl, lz, tz⟩

set_option maxRecDepth 100000 in
set_option maxHeartbeats 1000000 in
theorem pnum_ok {w : World} {p g : Nat} {s : ByteArray} {a k most above kd pl V f n : Nat} {x : Led} (h : SrcAt w p g s 0 s.size a) (o : SrcOk s 0 s.size a) (hl : LedAt w g (x.used k)) (hx : x.reason = 0) (ok : x.Ok) (hs : x.steps + k + nCost (nats s) a ≤ x.S) (hm : most ≤ 100000) (hab : above ≤ 4) (hy : numberAt (nats s) a = ⟨V, f, n, 0, 0⟩) (hV : V ≠ 0) (hmV : V ≤ most) :
    Calls Tryz.prog 57 #[.pointer (some ⟨p, 0, none⟩), .int .i64 (most : Int), .int .i64 (above : Int)] w fun e w' => e = .returned (.tuple #[.int .i64 (V : Int), .agg #[.int .i64 0, .int .i64 0, .int .i64 0]]) ∧ SrcAt w' p g s 0 s.size n ∧ LedAt w' g (x.used (k + nCost (nats s) a)) ∧ Turn [p, g] w w' := by
  have hpl := Blk.lt h
  have hgl := Blk.lt hl
  have hpg := h.ne hl
  have HS0 : SrcAt (w.alloc (.cells #[.int .i64 0, .int .i64 0, .int .i64 0] 34)) p g s 0 s.size a := Blk.alloc h _
  have HL0 : LedAt (w.alloc (.cells #[.int .i64 0, .int .i64 0, .int .i64 0] 34)) g (x.used k) := Blk.alloc hl _
  have F1 : FL (w.alloc (.cells #[.int .i64 0, .int .i64 0, .int .i64 0] 34)) w.heap.size 0 0 0 := Blk.new _ _ _
  have T1 : Turn [p, g] w (w.alloc (.cells #[.int .i64 0, .int .i64 0, .int .i64 0] 34)) := (Turn.refl _ _).alloc _
  have HN := Lib.hid (numAt_ok HS0 o HL0 hx ok hs hy)
  have hVi : ¬ (V : Int) = 0 := by omega
  have hmi : ¬ (most : Int) < (V : Int) := by omega
  clear h hl hx ok hs o HS0 HL0 hy
  go_enter Tryz.func57, Tryz.ntmps57
  go_wp2_with (first
    | (go_at_call 81; refine HN.out.mono ?_; rintro e w2 ⟨rfl, s2, l2, t02⟩; have t2 := T1.trans t02; have f2 : FL w2 w.heap.size 0 0 0 := FL.turn F1 t02 (not_two (by omega) (by omega)); have c0 := FL.c0 f2; have c1 := FL.c1 f2; have c2 := FL.c2 f2; have z0 := Blk.frozen f2 0; have z1 := Blk.frozen f2 1; have z2 := Blk.frozen f2 2; have b3 := Blk.lt f2))
  have sz := SrcAt.set3 (u := .int .i64 0) (v := .int .i64 0) (x := .int .i64 0) s2 (show p ≠ w.heap.size by omega)
  have fz := FL.store (k' := 0) (f' := 0) (a' := 0) f2
  have lz := LedAt.set3 (u := .int .i64 0) (v := .int .i64 0) (x := .int .i64 0) l2 (show g ≠ w.heap.size by omega)
  have tz := Turn.set3 (b := w.heap.size) (u := .int .i64 0) (v := .int .i64 0) (x := .int .i64 0) t2 (.inr (Nat.le_refl _))
  have fz := Blk.alloc fz (.cells #[.int .i64 0, .int .i64 0, .int .i64 0] 34)
  have lz := Blk.alloc lz (.cells #[.int .i64 0, .int .i64 0, .int .i64 0] 34)
  have tz := Turn.alloc tz (.cells #[.int .i64 0, .int .i64 0, .int .i64 0] 34)
  have sz := Blk.alloc sz (.cells #[.int .i64 0, .int .i64 0, .int .i64 0] 34)
  generalize ((((w2.setCell ⟨w.heap.size, 0, none⟩ (.int .i64 0)).setCell ⟨w.heap.size, 1, none⟩ (.int .i64 0)).setCell ⟨w.heap.size, 2, none⟩ (.int .i64 0)).alloc (.cells #[.int .i64 0, .int .i64 0, .int .i64 0] 34)) = we at sz fz lz tz ⊢
  have e0 := FL.c0 fz
  have e1 := FL.c1 fz
  have e2 := FL.c2 fz
  exact bodyPost_ret (v := .tuple #[.int .i64 (V : Int), .agg #[.int .i64 0, .int .i64 0, .int .i64 0]]) (by simp [results, Tryz.results57, go_sem, e0, e1, e2]) rfl ⟨rfl, sz, lz, tz⟩

end Go.Proofs.YtgmgcfjllijhgaaGreat
