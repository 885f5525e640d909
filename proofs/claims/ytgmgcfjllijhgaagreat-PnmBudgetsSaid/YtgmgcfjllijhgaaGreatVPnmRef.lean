/- The reference's head of a text, by the plain head. -/
import Derived.Test.YtgmgcfjllijhgaaGreatVPnmHead
import Derived.Test.YtgmgcfjllijhgaaGreatVSync
import Derived.Test.YtgmgcfjllijhgaaGreatVTokNum
namespace Go.Proofs.YtgmgcfjllijhgaaGreat
open Go.RowKit
set_option linter.unusedVariables false
set_option linter.unusedSimpArgs false

def h7 (k a b m t f p : Int) : Array Value := #[.int .i64 k, .int .i64 a, .int .i64 b, .int .i64 m, .int .i64 t, .int .i64 f, .int .i64 p]
def headV (x : HeadR) : Value := .agg #[.int .i64 (x.K : Int), .int .i64 (x.W : Int), .int .i64 (x.H : Int), .int .i64 (x.M : Int), .int .i64 (x.At : Int), .int .i64 (x.Kind : Int), .int .i64 (x.Place : Int)]
def st7 (w : World) (n : Nat) (k a b m t f p : Int) : World := ((((((w.setCell ⟨n, 0, none⟩ (.int .i64 k)).setCell ⟨n, 1, none⟩ (.int .i64 a)).setCell ⟨n, 2, none⟩ (.int .i64 b)).setCell ⟨n, 3, none⟩ (.int .i64 m)).setCell ⟨n, 4, none⟩ (.int .i64 t)).setCell ⟨n, 5, none⟩ (.int .i64 f)).setCell ⟨n, 6, none⟩ (.int .i64 p)
theorem Blk.st7 {w : World} {n : Nat} {t' : TypeId} {k a b m t f p : Int} (x : Blk w n t' (h7 k a b m t f p)) (k' a' b' m' u f' p' : Int) : Blk (st7 w n k' a' b' m' u f' p') n t' (h7 k' a' b' m' u f' p') :=
 (((((((x.set_ 0 _).set_ 1 _).set_ 2 _).set_ 3 _).set_ 4 _).set_ 5 _).set_ 6 _).eq_ (by simp [h7])
theorem Turn.st7 {a w : World} {S : List Nat} {n : Nat} (h : Turn S a w) (k' a' b' m' u f' p' : Int) (hn : a.heap.size ≤ n) : Turn S a (st7 w n k' a' b' m' u f' p') :=
 ((((((h.set_ 0 _ (.inr hn)).set_ 1 _ (.inr hn)).set_ 2 _ (.inr hn)).set_ 3 _ (.inr hn)).set_ 4 _ (.inr hn)).set_ 5 _ (.inr hn)).set_ 6 _ (.inr hn)
theorem Turn.nilBelow {a w : World} (h : Turn [] a w) : Below a.heap.size a w := h.below (by simp) (Nat.le_refl _)

theorem rbad_any (k a : Int) (w : World) : Calls Tryz.prog 28 #[.int .i64 k, .int .i64 a] w fun e w' => e = .returned (.agg #[.int .i64 0, .int .i64 0, .int .i64 0, .int .i64 0, .int .i64 0, .int .i64 k, .int .i64 a]) ∧ Below w.heap.size w w' := by
 go_enter Tryz.func28, Tryz.ntmps28
 go_wp2_with fail
 exact bodyPost_ret (v := .agg #[.int .i64 0, .int .i64 0, .int .i64 0, .int .i64 0, .int .i64 0, .int .i64 k, .int .i64 a]) (by simp [results, Tryz.results28, go_sem]) rfl ⟨rfl, (Below.refl _ _).alloc (Nat.le_refl _) _⟩
theorem rblank_any (b : Nat) (w : World) : Calls Tryz.prog 30 #[.int .u8 (b : Int)] w fun e w' => e = .returned (.bool (isBlank b)) ∧ w = w' := refBlank_any b w

set_option maxRecDepth 100000 in
set_option maxHeartbeats 2000000 in
theorem ref_end0 {s : ByteArray} {w : World} (h : s.size < 1) : Calls Tryz.prog 9 #[.string s] w fun e w' => e = .returned (headV (hbad 1 0)) ∧ Below w.heap.size w w' := by
 have R0 : Blk (w.alloc (.cells #[.int .i64 0, .int .i64 0, .int .i64 0, .int .i64 0, .int .i64 0, .int .i64 0, .int .i64 0] 24)) w.heap.size 24 (h7 0 0 0 0 0 0 0) := Blk.new _ _ _
 have T0' : Turn [] w (w.alloc (.cells #[.int .i64 0, .int .i64 0, .int .i64 0, .int .i64 0, .int .i64 0, .int .i64 0, .int .i64 0] 24)) := (Turn.refl _ _).alloc _
 have i1 : (s.size : Int) < 1 := by omega
 go_enter Tryz.func9, Tryz.ntmps9
 go_wp2_with (first
  | (go_at_call 28; refine (rbad_any (1) (0) _).mono ?_; rintro e w2 ⟨rfl, b2⟩; have R2 : Blk w2 w.heap.size 24 (h7 0 0 0 0 0 0 0) := Blk.below (R0) b2 (Blk.lt (R0)); have T2 : Turn [] w w2 := (T0').trans (Turn.of_below b2); have r0 : (w2).cell? ⟨w.heap.size, 0, none⟩ = some (.int .i64 (0 : Int)) := Blk.cell R2 0; have r1 : (w2).cell? ⟨w.heap.size, 1, none⟩ = some (.int .i64 (0 : Int)) := Blk.cell R2 1; have r2 : (w2).cell? ⟨w.heap.size, 2, none⟩ = some (.int .i64 (0 : Int)) := Blk.cell R2 2; have r3 : (w2).cell? ⟨w.heap.size, 3, none⟩ = some (.int .i64 (0 : Int)) := Blk.cell R2 3; have r4 : (w2).cell? ⟨w.heap.size, 4, none⟩ = some (.int .i64 (0 : Int)) := Blk.cell R2 4; have r5 : (w2).cell? ⟨w.heap.size, 5, none⟩ = some (.int .i64 (0 : Int)) := Blk.cell R2 5; have r6 : (w2).cell? ⟨w.heap.size, 6, none⟩ = some (.int .i64 (0 : Int)) := Blk.cell R2 6; have zr0 := Blk.frozen R2 0; have zr1 := Blk.frozen R2 1; have zr2 := Blk.frozen R2 2; have zr3 := Blk.frozen R2 3; have zr4 := Blk.frozen R2 4; have zr5 := Blk.frozen R2 5; have zr6 := Blk.frozen R2 6; have lr := Blk.lt R2))
 have fz : Blk (st7 w2 w.heap.size (0 : Int) (0 : Int) (0 : Int) (0 : Int) (0 : Int) (1 : Int) (0 : Int)) w.heap.size 24 (h7 (0 : Int) (0 : Int) (0 : Int) (0 : Int) (0 : Int) (1 : Int) (0 : Int)) := Blk.st7 R2 (0 : Int) (0 : Int) (0 : Int) (0 : Int) (0 : Int) (1 : Int) (0 : Int)
 have tz : Turn [] w (st7 w2 w.heap.size (0 : Int) (0 : Int) (0 : Int) (0 : Int) (0 : Int) (1 : Int) (0 : Int)) := Turn.st7 T2 (0 : Int) (0 : Int) (0 : Int) (0 : Int) (0 : Int) (1 : Int) (0 : Int) (Nat.le_refl _)
 change bodyPost _ _ _ _ _ ((st7 w2 w.heap.size (0 : Int) (0 : Int) (0 : Int) (0 : Int) (0 : Int) (1 : Int) (0 : Int)))
 generalize (st7 w2 w.heap.size (0 : Int) (0 : Int) (0 : Int) (0 : Int) (0 : Int) (1 : Int) (0 : Int)) = we at fz tz ⊢
 have q0 : we.cell? ⟨w.heap.size, 0, none⟩ = some (.int .i64 (0 : Int)) := Blk.cell fz 0
 have q1 : we.cell? ⟨w.heap.size, 1, none⟩ = some (.int .i64 (0 : Int)) := Blk.cell fz 1
 have q2 : we.cell? ⟨w.heap.size, 2, none⟩ = some (.int .i64 (0 : Int)) := Blk.cell fz 2
 have q3 : we.cell? ⟨w.heap.size, 3, none⟩ = some (.int .i64 (0 : Int)) := Blk.cell fz 3
 have q4 : we.cell? ⟨w.heap.size, 4, none⟩ = some (.int .i64 (0 : Int)) := Blk.cell fz 4
 have q5 : we.cell? ⟨w.heap.size, 5, none⟩ = some (.int .i64 (1 : Int)) := Blk.cell fz 5
 have q6 : we.cell? ⟨w.heap.size, 6, none⟩ = some (.int .i64 (0 : Int)) := Blk.cell fz 6
 exact bodyPost_ret (v := .agg #[.int .i64 (0 : Int), .int .i64 (0 : Int), .int .i64 (0 : Int), .int .i64 (0 : Int), .int .i64 (0 : Int), .int .i64 (1 : Int), .int .i64 (0 : Int)]) (by simp [results, Tryz.results9, go_sem, q0, q1, q2, q3, q4, q5, q6]) rfl ⟨rfl, tz.nilBelow⟩

set_option maxRecDepth 100000 in
set_option maxHeartbeats 2000000 in
theorem ref_wrong0 {s : ByteArray} {w : World} (h : 0 < s.size) (hb : bat s 0 ≠ 80) : Calls Tryz.prog 9 #[.string s] w fun e w' => e = .returned (headV (hbad 2 0)) ∧ Below w.heap.size w w' := by
 have R0 : Blk (w.alloc (.cells #[.int .i64 0, .int .i64 0, .int .i64 0, .int .i64 0, .int .i64 0, .int .i64 0, .int .i64 0] 24)) w.heap.size 24 (h7 0 0 0 0 0 0 0) := Blk.new _ _ _
 have T0' : Turn [] w (w.alloc (.cells #[.int .i64 0, .int .i64 0, .int .i64 0, .int .i64 0, .int .i64 0, .int .i64 0, .int .i64 0] 24)) := (Turn.refl _ _).alloc _
 have i1 : ¬ (s.size : Int) < 1 := by omega
 have hq0 := bat_eq h
 have i2 : ((((s[0].toNat : Nat) : Int)) != 80) = true := bne_iff_ne.2 (by omega)
 go_enter Tryz.func9, Tryz.ntmps9
 go_wp2_with (first
  | (go_at_call 28; refine (rbad_any (2) (0) _).mono ?_; rintro e w2 ⟨rfl, b2⟩; have R2 : Blk w2 w.heap.size 24 (h7 0 0 0 0 0 0 0) := Blk.below (R0) b2 (Blk.lt (R0)); have T2 : Turn [] w w2 := (T0').trans (Turn.of_below b2); have r0 : (w2).cell? ⟨w.heap.size, 0, none⟩ = some (.int .i64 (0 : Int)) := Blk.cell R2 0; have r1 : (w2).cell? ⟨w.heap.size, 1, none⟩ = some (.int .i64 (0 : Int)) := Blk.cell R2 1; have r2 : (w2).cell? ⟨w.heap.size, 2, none⟩ = some (.int .i64 (0 : Int)) := Blk.cell R2 2; have r3 : (w2).cell? ⟨w.heap.size, 3, none⟩ = some (.int .i64 (0 : Int)) := Blk.cell R2 3; have r4 : (w2).cell? ⟨w.heap.size, 4, none⟩ = some (.int .i64 (0 : Int)) := Blk.cell R2 4; have r5 : (w2).cell? ⟨w.heap.size, 5, none⟩ = some (.int .i64 (0 : Int)) := Blk.cell R2 5; have r6 : (w2).cell? ⟨w.heap.size, 6, none⟩ = some (.int .i64 (0 : Int)) := Blk.cell R2 6; have zr0 := Blk.frozen R2 0; have zr1 := Blk.frozen R2 1; have zr2 := Blk.frozen R2 2; have zr3 := Blk.frozen R2 3; have zr4 := Blk.frozen R2 4; have zr5 := Blk.frozen R2 5; have zr6 := Blk.frozen R2 6; have lr := Blk.lt R2))
 have fz : Blk (st7 w2 w.heap.size (0 : Int) (0 : Int) (0 : Int) (0 : Int) (0 : Int) (2 : Int) (0 : Int)) w.heap.size 24 (h7 (0 : Int) (0 : Int) (0 : Int) (0 : Int) (0 : Int) (2 : Int) (0 : Int)) := Blk.st7 R2 (0 : Int) (0 : Int) (0 : Int) (0 : Int) (0 : Int) (2 : Int) (0 : Int)
 have tz : Turn [] w (st7 w2 w.heap.size (0 : Int) (0 : Int) (0 : Int) (0 : Int) (0 : Int) (2 : Int) (0 : Int)) := Turn.st7 T2 (0 : Int) (0 : Int) (0 : Int) (0 : Int) (0 : Int) (2 : Int) (0 : Int) (Nat.le_refl _)
 change bodyPost _ _ _ _ _ ((st7 w2 w.heap.size (0 : Int) (0 : Int) (0 : Int) (0 : Int) (0 : Int) (2 : Int) (0 : Int)))
 generalize (st7 w2 w.heap.size (0 : Int) (0 : Int) (0 : Int) (0 : Int) (0 : Int) (2 : Int) (0 : Int)) = we at fz tz ⊢
 have q0 : we.cell? ⟨w.heap.size, 0, none⟩ = some (.int .i64 (0 : Int)) := Blk.cell fz 0
 have q1 : we.cell? ⟨w.heap.size, 1, none⟩ = some (.int .i64 (0 : Int)) := Blk.cell fz 1
 have q2 : we.cell? ⟨w.heap.size, 2, none⟩ = some (.int .i64 (0 : Int)) := Blk.cell fz 2
 have q3 : we.cell? ⟨w.heap.size, 3, none⟩ = some (.int .i64 (0 : Int)) := Blk.cell fz 3
 have q4 : we.cell? ⟨w.heap.size, 4, none⟩ = some (.int .i64 (0 : Int)) := Blk.cell fz 4
 have q5 : we.cell? ⟨w.heap.size, 5, none⟩ = some (.int .i64 (2 : Int)) := Blk.cell fz 5
 have q6 : we.cell? ⟨w.heap.size, 6, none⟩ = some (.int .i64 (0 : Int)) := Blk.cell fz 6
 exact bodyPost_ret (v := .agg #[.int .i64 (0 : Int), .int .i64 (0 : Int), .int .i64 (0 : Int), .int .i64 (0 : Int), .int .i64 (0 : Int), .int .i64 (2 : Int), .int .i64 (0 : Int)]) (by simp [results, Tryz.results9, go_sem, q0, q1, q2, q3, q4, q5, q6]) rfl ⟨rfl, tz.nilBelow⟩

set_option maxRecDepth 100000 in
set_option maxHeartbeats 2000000 in
theorem ref_end1 {s : ByteArray} {w : World} (h : 0 < s.size) (hb : bat s 0 = 80) (h1 : s.size = 1) : Calls Tryz.prog 9 #[.string s] w fun e w' => e = .returned (headV (hbad 1 1)) ∧ Below w.heap.size w w' := by
 have R0 : Blk (w.alloc (.cells #[.int .i64 0, .int .i64 0, .int .i64 0, .int .i64 0, .int .i64 0, .int .i64 0, .int .i64 0] 24)) w.heap.size 24 (h7 0 0 0 0 0 0 0) := Blk.new _ _ _
 have T0' : Turn [] w (w.alloc (.cells #[.int .i64 0, .int .i64 0, .int .i64 0, .int .i64 0, .int .i64 0, .int .i64 0, .int .i64 0] 24)) := (Turn.refl _ _).alloc _
 have i1 : ¬ (s.size : Int) < 1 := by omega
 have i3 : (s.size : Int) < 2 := by omega
 have hq0 := bat_eq h
 have i2 : (((s[0].toNat : Nat) : Int)) = 80 := by omega
 go_enter Tryz.func9, Tryz.ntmps9
 go_wp2_with (first
  | (go_at_call 28; refine (rbad_any (1) (1) _).mono ?_; rintro e w2 ⟨rfl, b2⟩; have R2 : Blk w2 w.heap.size 24 (h7 0 0 0 0 0 0 0) := Blk.below (R0) b2 (Blk.lt (R0)); have T2 : Turn [] w w2 := (T0').trans (Turn.of_below b2); have r0 : (w2).cell? ⟨w.heap.size, 0, none⟩ = some (.int .i64 (0 : Int)) := Blk.cell R2 0; have r1 : (w2).cell? ⟨w.heap.size, 1, none⟩ = some (.int .i64 (0 : Int)) := Blk.cell R2 1; have r2 : (w2).cell? ⟨w.heap.size, 2, none⟩ = some (.int .i64 (0 : Int)) := Blk.cell R2 2; have r3 : (w2).cell? ⟨w.heap.size, 3, none⟩ = some (.int .i64 (0 : Int)) := Blk.cell R2 3; have r4 : (w2).cell? ⟨w.heap.size, 4, none⟩ = some (.int .i64 (0 : Int)) := Blk.cell R2 4; have r5 : (w2).cell? ⟨w.heap.size, 5, none⟩ = some (.int .i64 (0 : Int)) := Blk.cell R2 5; have r6 : (w2).cell? ⟨w.heap.size, 6, none⟩ = some (.int .i64 (0 : Int)) := Blk.cell R2 6; have zr0 := Blk.frozen R2 0; have zr1 := Blk.frozen R2 1; have zr2 := Blk.frozen R2 2; have zr3 := Blk.frozen R2 3; have zr4 := Blk.frozen R2 4; have zr5 := Blk.frozen R2 5; have zr6 := Blk.frozen R2 6; have lr := Blk.lt R2))
 have fz : Blk (st7 w2 w.heap.size (0 : Int) (0 : Int) (0 : Int) (0 : Int) (0 : Int) (1 : Int) (1 : Int)) w.heap.size 24 (h7 (0 : Int) (0 : Int) (0 : Int) (0 : Int) (0 : Int) (1 : Int) (1 : Int)) := Blk.st7 R2 (0 : Int) (0 : Int) (0 : Int) (0 : Int) (0 : Int) (1 : Int) (1 : Int)
 have tz : Turn [] w (st7 w2 w.heap.size (0 : Int) (0 : Int) (0 : Int) (0 : Int) (0 : Int) (1 : Int) (1 : Int)) := Turn.st7 T2 (0 : Int) (0 : Int) (0 : Int) (0 : Int) (0 : Int) (1 : Int) (1 : Int) (Nat.le_refl _)
 change bodyPost _ _ _ _ _ ((st7 w2 w.heap.size (0 : Int) (0 : Int) (0 : Int) (0 : Int) (0 : Int) (1 : Int) (1 : Int)))
 generalize (st7 w2 w.heap.size (0 : Int) (0 : Int) (0 : Int) (0 : Int) (0 : Int) (1 : Int) (1 : Int)) = we at fz tz ⊢
 have q0 : we.cell? ⟨w.heap.size, 0, none⟩ = some (.int .i64 (0 : Int)) := Blk.cell fz 0
 have q1 : we.cell? ⟨w.heap.size, 1, none⟩ = some (.int .i64 (0 : Int)) := Blk.cell fz 1
 have q2 : we.cell? ⟨w.heap.size, 2, none⟩ = some (.int .i64 (0 : Int)) := Blk.cell fz 2
 have q3 : we.cell? ⟨w.heap.size, 3, none⟩ = some (.int .i64 (0 : Int)) := Blk.cell fz 3
 have q4 : we.cell? ⟨w.heap.size, 4, none⟩ = some (.int .i64 (0 : Int)) := Blk.cell fz 4
 have q5 : we.cell? ⟨w.heap.size, 5, none⟩ = some (.int .i64 (1 : Int)) := Blk.cell fz 5
 have q6 : we.cell? ⟨w.heap.size, 6, none⟩ = some (.int .i64 (1 : Int)) := Blk.cell fz 6
 exact bodyPost_ret (v := .agg #[.int .i64 (0 : Int), .int .i64 (0 : Int), .int .i64 (0 : Int), .int .i64 (0 : Int), .int .i64 (0 : Int), .int .i64 (1 : Int), .int .i64 (1 : Int)]) (by simp [results, Tryz.results9, go_sem, q0, q1, q2, q3, q4, q5, q6]) rfl ⟨rfl, tz.nilBelow⟩

set_option maxRecDepth 100000 in
set_option maxHeartbeats 2000000 in
theorem ref_wrong1a {s : ByteArray} {w : World} (h : 1 < s.size) (hb : bat s 0 = 80) (hb1 : bat s 1 < 49) : Calls Tryz.prog 9 #[.string s] w fun e w' => e = .returned (headV (hbad 2 1)) ∧ Below w.heap.size w w' := by
 have R0 : Blk (w.alloc (.cells #[.int .i64 0, .int .i64 0, .int .i64 0, .int .i64 0, .int .i64 0, .int .i64 0, .int .i64 0] 24)) w.heap.size 24 (h7 0 0 0 0 0 0 0) := Blk.new _ _ _
 have T0' : Turn [] w (w.alloc (.cells #[.int .i64 0, .int .i64 0, .int .i64 0, .int .i64 0, .int .i64 0, .int .i64 0, .int .i64 0] 24)) := (Turn.refl _ _).alloc _
 have i1 : ¬ (s.size : Int) < 1 := by omega
 have i3 : ¬ (s.size : Int) < 2 := by omega
 have hq0 := bat_eq (show 0 < s.size by omega)
 have hq1 := bat_eq h
 have hl1 := bat_lt s 1
 have i2 : ((((s[0]).toNat : Nat) : Int)) = 80 := by omega
 have i4 : ((((s[1]).toNat : Nat) : Int)) - 48 < 1 := by omega
 go_enter Tryz.func9, Tryz.ntmps9
 go_wp2_with (first
  | (go_at_call 28; refine (rbad_any (2) (1) _).mono ?_; rintro e w2 ⟨rfl, b2⟩; have R2 : Blk w2 w.heap.size 24 (h7 0 0 0 0 0 0 0) := Blk.below (R0) b2 (Blk.lt (R0)); have T2 : Turn [] w w2 := (T0').trans (Turn.of_below b2); have r0 : (w2).cell? ⟨w.heap.size, 0, none⟩ = some (.int .i64 (0 : Int)) := Blk.cell R2 0; have r1 : (w2).cell? ⟨w.heap.size, 1, none⟩ = some (.int .i64 (0 : Int)) := Blk.cell R2 1; have r2 : (w2).cell? ⟨w.heap.size, 2, none⟩ = some (.int .i64 (0 : Int)) := Blk.cell R2 2; have r3 : (w2).cell? ⟨w.heap.size, 3, none⟩ = some (.int .i64 (0 : Int)) := Blk.cell R2 3; have r4 : (w2).cell? ⟨w.heap.size, 4, none⟩ = some (.int .i64 (0 : Int)) := Blk.cell R2 4; have r5 : (w2).cell? ⟨w.heap.size, 5, none⟩ = some (.int .i64 (0 : Int)) := Blk.cell R2 5; have r6 : (w2).cell? ⟨w.heap.size, 6, none⟩ = some (.int .i64 (0 : Int)) := Blk.cell R2 6; have zr0 := Blk.frozen R2 0; have zr1 := Blk.frozen R2 1; have zr2 := Blk.frozen R2 2; have zr3 := Blk.frozen R2 3; have zr4 := Blk.frozen R2 4; have zr5 := Blk.frozen R2 5; have zr6 := Blk.frozen R2 6; have lr := Blk.lt R2))
 have fz : Blk (st7 w2 w.heap.size (0 : Int) (0 : Int) (0 : Int) (0 : Int) (0 : Int) (2 : Int) (1 : Int)) w.heap.size 24 (h7 (0 : Int) (0 : Int) (0 : Int) (0 : Int) (0 : Int) (2 : Int) (1 : Int)) := Blk.st7 R2 (0 : Int) (0 : Int) (0 : Int) (0 : Int) (0 : Int) (2 : Int) (1 : Int)
 have tz : Turn [] w (st7 w2 w.heap.size (0 : Int) (0 : Int) (0 : Int) (0 : Int) (0 : Int) (2 : Int) (1 : Int)) := Turn.st7 T2 (0 : Int) (0 : Int) (0 : Int) (0 : Int) (0 : Int) (2 : Int) (1 : Int) (Nat.le_refl _)
 change bodyPost _ _ _ _ _ ((st7 w2 w.heap.size (0 : Int) (0 : Int) (0 : Int) (0 : Int) (0 : Int) (2 : Int) (1 : Int)))
 generalize (st7 w2 w.heap.size (0 : Int) (0 : Int) (0 : Int) (0 : Int) (0 : Int) (2 : Int) (1 : Int)) = we at fz tz ⊢
 have q0 : we.cell? ⟨w.heap.size, 0, none⟩ = some (.int .i64 (0 : Int)) := Blk.cell fz 0
 have q1 : we.cell? ⟨w.heap.size, 1, none⟩ = some (.int .i64 (0 : Int)) := Blk.cell fz 1
 have q2 : we.cell? ⟨w.heap.size, 2, none⟩ = some (.int .i64 (0 : Int)) := Blk.cell fz 2
 have q3 : we.cell? ⟨w.heap.size, 3, none⟩ = some (.int .i64 (0 : Int)) := Blk.cell fz 3
 have q4 : we.cell? ⟨w.heap.size, 4, none⟩ = some (.int .i64 (0 : Int)) := Blk.cell fz 4
 have q5 : we.cell? ⟨w.heap.size, 5, none⟩ = some (.int .i64 (2 : Int)) := Blk.cell fz 5
 have q6 : we.cell? ⟨w.heap.size, 6, none⟩ = some (.int .i64 (1 : Int)) := Blk.cell fz 6
 exact bodyPost_ret (v := .agg #[.int .i64 (0 : Int), .int .i64 (0 : Int), .int .i64 (0 : Int), .int .i64 (0 : Int), .int .i64 (0 : Int), .int .i64 (2 : Int), .int .i64 (1 : Int)]) (by simp [results, Tryz.results9, go_sem, q0, q1, q2, q3, q4, q5, q6]) rfl ⟨rfl, tz.nilBelow⟩

set_option maxRecDepth 100000 in
set_option maxHeartbeats 2000000 in
theorem ref_wrong1b {s : ByteArray} {w : World} (h : 1 < s.size) (hb : bat s 0 = 80) (hb1 : 54 < bat s 1) : Calls Tryz.prog 9 #[.string s] w fun e w' => e = .returned (headV (hbad 2 1)) ∧ Below w.heap.size w w' := by
 have R0 : Blk (w.alloc (.cells #[.int .i64 0, .int .i64 0, .int .i64 0, .int .i64 0, .int .i64 0, .int .i64 0, .int .i64 0] 24)) w.heap.size 24 (h7 0 0 0 0 0 0 0) := Blk.new _ _ _
 have T0' : Turn [] w (w.alloc (.cells #[.int .i64 0, .int .i64 0, .int .i64 0, .int .i64 0, .int .i64 0, .int .i64 0, .int .i64 0] 24)) := (Turn.refl _ _).alloc _
 have i1 : ¬ (s.size : Int) < 1 := by omega
 have i3 : ¬ (s.size : Int) < 2 := by omega
 have hq0 := bat_eq (show 0 < s.size by omega)
 have hq1 := bat_eq h
 have hl1 := bat_lt s 1
 have i2 : ((((s[0]).toNat : Nat) : Int)) = 80 := by omega
 have i4 : ¬ ((((s[1]).toNat : Nat) : Int)) - 48 < 1 := by omega
 have i5 : 6 < ((((s[1]).toNat : Nat) : Int)) - 48 := by omega
 go_enter Tryz.func9, Tryz.ntmps9
 go_wp2_with (first
  | (go_at_call 28; refine (rbad_any (2) (1) _).mono ?_; rintro e w2 ⟨rfl, b2⟩; have R2 : Blk w2 w.heap.size 24 (h7 0 0 0 0 0 0 0) := Blk.below (R0) b2 (Blk.lt (R0)); have T2 : Turn [] w w2 := (T0').trans (Turn.of_below b2); have r0 : (w2).cell? ⟨w.heap.size, 0, none⟩ = some (.int .i64 (0 : Int)) := Blk.cell R2 0; have r1 : (w2).cell? ⟨w.heap.size, 1, none⟩ = some (.int .i64 (0 : Int)) := Blk.cell R2 1; have r2 : (w2).cell? ⟨w.heap.size, 2, none⟩ = some (.int .i64 (0 : Int)) := Blk.cell R2 2; have r3 : (w2).cell? ⟨w.heap.size, 3, none⟩ = some (.int .i64 (0 : Int)) := Blk.cell R2 3; have r4 : (w2).cell? ⟨w.heap.size, 4, none⟩ = some (.int .i64 (0 : Int)) := Blk.cell R2 4; have r5 : (w2).cell? ⟨w.heap.size, 5, none⟩ = some (.int .i64 (0 : Int)) := Blk.cell R2 5; have r6 : (w2).cell? ⟨w.heap.size, 6, none⟩ = some (.int .i64 (0 : Int)) := Blk.cell R2 6; have zr0 := Blk.frozen R2 0; have zr1 := Blk.frozen R2 1; have zr2 := Blk.frozen R2 2; have zr3 := Blk.frozen R2 3; have zr4 := Blk.frozen R2 4; have zr5 := Blk.frozen R2 5; have zr6 := Blk.frozen R2 6; have lr := Blk.lt R2))
 have fz : Blk (st7 w2 w.heap.size (0 : Int) (0 : Int) (0 : Int) (0 : Int) (0 : Int) (2 : Int) (1 : Int)) w.heap.size 24 (h7 (0 : Int) (0 : Int) (0 : Int) (0 : Int) (0 : Int) (2 : Int) (1 : Int)) := Blk.st7 R2 (0 : Int) (0 : Int) (0 : Int) (0 : Int) (0 : Int) (2 : Int) (1 : Int)
 have tz : Turn [] w (st7 w2 w.heap.size (0 : Int) (0 : Int) (0 : Int) (0 : Int) (0 : Int) (2 : Int) (1 : Int)) := Turn.st7 T2 (0 : Int) (0 : Int) (0 : Int) (0 : Int) (0 : Int) (2 : Int) (1 : Int) (Nat.le_refl _)
 change bodyPost _ _ _ _ _ ((st7 w2 w.heap.size (0 : Int) (0 : Int) (0 : Int) (0 : Int) (0 : Int) (2 : Int) (1 : Int)))
 generalize (st7 w2 w.heap.size (0 : Int) (0 : Int) (0 : Int) (0 : Int) (0 : Int) (2 : Int) (1 : Int)) = we at fz tz ⊢
 have q0 : we.cell? ⟨w.heap.size, 0, none⟩ = some (.int .i64 (0 : Int)) := Blk.cell fz 0
 have q1 : we.cell? ⟨w.heap.size, 1, none⟩ = some (.int .i64 (0 : Int)) := Blk.cell fz 1
 have q2 : we.cell? ⟨w.heap.size, 2, none⟩ = some (.int .i64 (0 : Int)) := Blk.cell fz 2
 have q3 : we.cell? ⟨w.heap.size, 3, none⟩ = some (.int .i64 (0 : Int)) := Blk.cell fz 3
 have q4 : we.cell? ⟨w.heap.size, 4, none⟩ = some (.int .i64 (0 : Int)) := Blk.cell fz 4
 have q5 : we.cell? ⟨w.heap.size, 5, none⟩ = some (.int .i64 (2 : Int)) := Blk.cell fz 5
 have q6 : we.cell? ⟨w.heap.size, 6, none⟩ = some (.int .i64 (1 : Int)) := Blk.cell fz 6
 exact bodyPost_ret (v := .agg #[.int .i64 (0 : Int), .int .i64 (0 : Int), .int .i64 (0 : Int), .int .i64 (0 : Int), .int .i64 (0 : Int), .int .i64 (2 : Int), .int .i64 (1 : Int)]) (by simp [results, Tryz.results9, go_sem, q0, q1, q2, q3, q4, q5, q6]) rfl ⟨rfl, tz.nilBelow⟩

set_option maxRecDepth 100000 in
set_option maxHeartbeats 2000000 in
theorem ref_sides {s : ByteArray} {w : World} {K : Nat} (h : 1 < s.size) (hs : s.size ≤ 1099511627776) (hb : bat s 0 = 80) (hb1 : 49 ≤ bat s 1 ∧ bat s 1 ≤ 54) (hK : K = bat s 1 - 48) : Calls Tryz.prog 9 #[.string s] w fun e w' => e = .returned (headV (hsides (nats s) K)) ∧ Below w.heap.size w w' := by
 have hlen := nats_len s
 have R0 : Blk ((w.alloc (.cells #[.int .i64 0, .int .i64 0, .int .i64 0, .int .i64 0, .int .i64 0, .int .i64 0, .int .i64 0] 24)).alloc (.cells #[.int .i64 (K : Int), .int .i64 0, .int .i64 0, .int .i64 1, .int .i64 0, .int .i64 0, .int .i64 0] 24)) w.heap.size 24 (h7 0 0 0 0 0 0 0) := (Blk.new _ _ _).alloc _
 have H0 : Blk ((w.alloc (.cells #[.int .i64 0, .int .i64 0, .int .i64 0, .int .i64 0, .int .i64 0, .int .i64 0, .int .i64 0] 24)).alloc (.cells #[.int .i64 (K : Int), .int .i64 0, .int .i64 0, .int .i64 1, .int .i64 0, .int .i64 0, .int .i64 0] 24)) (w.heap.size + 1) 24 (h7 K 0 0 1 0 0 0) := Blk.new_at _ _ _ (by simp)
 have T0' : Turn [] w ((w.alloc (.cells #[.int .i64 0, .int .i64 0, .int .i64 0, .int .i64 0, .int .i64 0, .int .i64 0, .int .i64 0] 24)).alloc (.cells #[.int .i64 (K : Int), .int .i64 0, .int .i64 0, .int .i64 1, .int .i64 0, .int .i64 0, .int .i64 0] 24)) := ((Turn.refl _ _).alloc _).alloc _
 have i1 : ¬ (s.size : Int) < 1 := by omega
 have i3 : ¬ (s.size : Int) < 2 := by omega
 have hq0 := bat_eq (show 0 < s.size by omega)
 have hq1 := bat_eq h
 have hl1 := bat_lt s 1
 have i2 : ((((s[0]).toNat : Nat) : Int)) = 80 := by omega
 have i4 : ¬ (K : Int) < 1 := by omega
 have i5 : ¬ 6 < (K : Int) := by omega
 have hK6 : K ≤ 6 := by omega
 have hcast : ((((s[1]).toNat : Nat) : Int)) - 48 = (K : Int) := by omega
 have HX : ∀ x : HeadR, hrest1 (nats s) K 2 = x → Calls Tryz.prog 9 #[.string s] w fun e w' => e = .returned (headV (x)) ∧ Below w.heap.size w w' := by
  intro x hx
  have HXX : Hid (hrest1 (nats s) K 2 = x) := Lib.hid hx
  clear hx hb hb1 hK
  have HR := Lib.hid R0
  have HH := Lib.hid H0
  have HT := Lib.hid T0'
  clear R0 H0 T0'
  go_enter Tryz.func9, Tryz.ntmps9
  go_wp2_with fail
  go_loopg [5, 6] 3 (fun n av iv wr => ∃ a W Hh M : Nat, n ≤ 3 ∧ av = .int .i64 (a : Int) ∧ a ≤ s.size ∧ W ≤ 16384 ∧ Hh ≤ 16384 ∧ M ≤ 65535 ∧ Blk wr w.heap.size 24 (h7 0 0 0 0 0 0 0) ∧ Blk wr (w.heap.size + 1) 24 (h7 K W Hh M 0 0 0) ∧ Turn [] w wr ∧ ((n = 3 ∧ iv = .int .i64 0 ∧ W = 0 ∧ Hh = 0 ∧ M = 1 ∧ Hid (hrest1 (nats s) K a = x)) ∨ (n = 2 ∧ iv = .int .i64 1 ∧ Hh = 0 ∧ M = 1 ∧ Hid (hrest2 (nats s) K W a = x)) ∨ (n = 1 ∧ iv = .int .i64 2 ∧ M = 1 ∧ Hid (hmost (nats s) K W Hh a = x)) ∨ (n = 0 ∧ iv = .int .i64 3 ∧ Hid (hfin (nats s) K W Hh M a = x))))
  case atStart => exact ⟨2, 0, 0, 1, Nat.le_refl _, rfl, by omega, by omega, by omega, by omega, HR.out, HH.out, HT.out, .inl ⟨rfl, rfl, rfl, rfl, rfl, HXX⟩⟩
  case round =>
   obtain ⟨a, W, Hh, M, hn3, rfl, ha, hW, hHh, hM, hR, hH, hT, hor⟩ := hrel
   clear HR HH HT HXX
   have hRl := Blk.lt hH
   obtain ⟨rfl, rfl, rfl, rfl, rfl, hA⟩ | ⟨rfl, rfl, rfl, rfl, hA⟩ | ⟨rfl, rfl, rfl, hA⟩ | ⟨rfl, rfl, hA⟩ := hor
   ·rcases hnum_or (nats s) a 16384 3 (by omega) with ⟨kd, pl, hy, q, k0, k2, hp⟩ | ⟨f, nn, hy, q, hp⟩ | ⟨V, f, nn, hy, q, v0, vm, hp, hV⟩ | ⟨V, f, nn, hy, q, v0, vm, hn, han, hp⟩
    ·-- bad
     have hc := fun w => refNumber_any s a w ha hs
     rw [hy] at hc
     have HC : Hid (∀ w : World, Calls Tryz.prog 29 #[.string s, .int .i64 (a : Int)] w fun e w' => e = .returned (.agg #[.int .i64 (0 : Int), .int .i64 (0 : Int), .int .i64 (0 : Int), .int .i64 (kd : Int), .int .i64 (pl : Int)]) ∧ Below w.heap.size w w') := Lib.hid hc
     have HR := Lib.hid hR
     have HH := Lib.hid hH
     have HT := Lib.hid hT
     have HA : Hid (hbad kd pl = x) := Lib.hid (by have e := hA.out; unfold hrest1 at e; simp only [q] at e; rw [if_pos k0] at e; exact e)
     clear hA hy q hc
     clear hR hH hT
     have j0 : ¬ (kd : Int) = 0 := by omega
     go_wp2_with (first
      | (go_at_call 29; refine (HC.out _).mono ?_; rintro e w1 ⟨rfl, b1⟩; have R1 : Blk w1 w.heap.size 24 (h7 0 0 0 0 0 0 0) := Blk.below HR.out b1 (Blk.lt HR.out); have H1 : Blk w1 (w.heap.size + 1) 24 (h7 K 0 0 1 0 0 0) := Blk.below HH.out b1 (Blk.lt HH.out); have T1 : Turn [] w w1 := (HT.out).trans (Turn.of_below b1); have h0 : (w1).cell? ⟨w.heap.size + 1, 0, none⟩ = some (.int .i64 (K : Int)) := Blk.cell H1 0; have h1 : (w1).cell? ⟨w.heap.size + 1, 1, none⟩ = some (.int .i64 (0 : Int)) := Blk.cell H1 1; have h2 : (w1).cell? ⟨w.heap.size + 1, 2, none⟩ = some (.int .i64 (0 : Int)) := Blk.cell H1 2; have h3 : (w1).cell? ⟨w.heap.size + 1, 3, none⟩ = some (.int .i64 (1 : Int)) := Blk.cell H1 3; have h4 : (w1).cell? ⟨w.heap.size + 1, 4, none⟩ = some (.int .i64 (0 : Int)) := Blk.cell H1 4; have h5 : (w1).cell? ⟨w.heap.size + 1, 5, none⟩ = some (.int .i64 (0 : Int)) := Blk.cell H1 5; have h6 : (w1).cell? ⟨w.heap.size + 1, 6, none⟩ = some (.int .i64 (0 : Int)) := Blk.cell H1 6; have zh0 := Blk.frozen H1 0; have zh1 := Blk.frozen H1 1; have zh2 := Blk.frozen H1 2; have zh3 := Blk.frozen H1 3; have zh4 := Blk.frozen H1 4; have zh5 := Blk.frozen H1 5; have zh6 := Blk.frozen H1 6; have lh := Blk.lt H1)
      | (go_at_call 28; refine (rbad_any (kd) (pl) _).mono ?_; rintro e w2 ⟨rfl, b2⟩; have R2 : Blk w2 w.heap.size 24 (h7 0 0 0 0 0 0 0) := Blk.below (Blk.alloc R1 _) b2 (Blk.lt (Blk.alloc R1 _)); have T2 : Turn [] w w2 := (T1.alloc _).trans (Turn.of_below b2); have r0 : (w2).cell? ⟨w.heap.size, 0, none⟩ = some (.int .i64 (0 : Int)) := Blk.cell R2 0; have r1 : (w2).cell? ⟨w.heap.size, 1, none⟩ = some (.int .i64 (0 : Int)) := Blk.cell R2 1; have r2 : (w2).cell? ⟨w.heap.size, 2, none⟩ = some (.int .i64 (0 : Int)) := Blk.cell R2 2; have r3 : (w2).cell? ⟨w.heap.size, 3, none⟩ = some (.int .i64 (0 : Int)) := Blk.cell R2 3; have r4 : (w2).cell? ⟨w.heap.size, 4, none⟩ = some (.int .i64 (0 : Int)) := Blk.cell R2 4; have r5 : (w2).cell? ⟨w.heap.size, 5, none⟩ = some (.int .i64 (0 : Int)) := Blk.cell R2 5; have r6 : (w2).cell? ⟨w.heap.size, 6, none⟩ = some (.int .i64 (0 : Int)) := Blk.cell R2 6; have zr0 := Blk.frozen R2 0; have zr1 := Blk.frozen R2 1; have zr2 := Blk.frozen R2 2; have zr3 := Blk.frozen R2 3; have zr4 := Blk.frozen R2 4; have zr5 := Blk.frozen R2 5; have zr6 := Blk.frozen R2 6; have lr := Blk.lt R2))
     have fz : Blk (st7 w2 w.heap.size (0 : Int) (0 : Int) (0 : Int) (0 : Int) (0 : Int) (kd : Int) (pl : Int)) w.heap.size 24 (h7 (0 : Int) (0 : Int) (0 : Int) (0 : Int) (0 : Int) (kd : Int) (pl : Int)) := Blk.st7 R2 (0 : Int) (0 : Int) (0 : Int) (0 : Int) (0 : Int) (kd : Int) (pl : Int)
     have tz : Turn [] w (st7 w2 w.heap.size (0 : Int) (0 : Int) (0 : Int) (0 : Int) (0 : Int) (kd : Int) (pl : Int)) := Turn.st7 T2 (0 : Int) (0 : Int) (0 : Int) (0 : Int) (0 : Int) (kd : Int) (pl : Int) (Nat.le_refl _)
     change bodyPost _ _ _ _ _ ((st7 w2 w.heap.size (0 : Int) (0 : Int) (0 : Int) (0 : Int) (0 : Int) (kd : Int) (pl : Int)))
     generalize (st7 w2 w.heap.size (0 : Int) (0 : Int) (0 : Int) (0 : Int) (0 : Int) (kd : Int) (pl : Int)) = we at fz tz ⊢
     have q0 : we.cell? ⟨w.heap.size, 0, none⟩ = some (.int .i64 (0 : Int)) := Blk.cell fz 0
     have q1 : we.cell? ⟨w.heap.size, 1, none⟩ = some (.int .i64 (0 : Int)) := Blk.cell fz 1
     have q2 : we.cell? ⟨w.heap.size, 2, none⟩ = some (.int .i64 (0 : Int)) := Blk.cell fz 2
     have q3 : we.cell? ⟨w.heap.size, 3, none⟩ = some (.int .i64 (0 : Int)) := Blk.cell fz 3
     have q4 : we.cell? ⟨w.heap.size, 4, none⟩ = some (.int .i64 (0 : Int)) := Blk.cell fz 4
     have q5 : we.cell? ⟨w.heap.size, 5, none⟩ = some (.int .i64 (kd : Int)) := Blk.cell fz 5
     have q6 : we.cell? ⟨w.heap.size, 6, none⟩ = some (.int .i64 (pl : Int)) := Blk.cell fz 6
     exact bodyPost_ret (v := .agg #[.int .i64 (0 : Int), .int .i64 (0 : Int), .int .i64 (0 : Int), .int .i64 (0 : Int), .int .i64 (0 : Int), .int .i64 (kd : Int), .int .i64 (pl : Int)]) (by simp [results, Tryz.results9, go_sem, q0, q1, q2, q3, q4, q5, q6]) rfl ⟨by have e := HA.out; rw [← e]; rfl, tz.nilBelow⟩
    ·-- zero
     have hc := fun w => refNumber_any s a w ha hs
     rw [hy] at hc
     have HC : Hid (∀ w : World, Calls Tryz.prog 29 #[.string s, .int .i64 (a : Int)] w fun e w' => e = .returned (.agg #[.int .i64 (0 : Int), .int .i64 (f : Int), .int .i64 (nn : Int), .int .i64 (0 : Int), .int .i64 (0 : Int)]) ∧ Below w.heap.size w w') := Lib.hid hc
     have HR := Lib.hid hR
     have HH := Lib.hid hH
     have HT := Lib.hid hT
     have HA : Hid (hbad 2 f = x) := Lib.hid (by have e := hA.out; unfold hrest1 at e; simp only [q] at e; rw [if_pos (by decide)] at e; exact e)
     clear hA hy q hc
     clear hR hH hT
     go_wp2_with (first
      | (go_at_call 29; refine (HC.out _).mono ?_; rintro e w1 ⟨rfl, b1⟩; have R1 : Blk w1 w.heap.size 24 (h7 0 0 0 0 0 0 0) := Blk.below HR.out b1 (Blk.lt HR.out); have H1 : Blk w1 (w.heap.size + 1) 24 (h7 K 0 0 1 0 0 0) := Blk.below HH.out b1 (Blk.lt HH.out); have T1 : Turn [] w w1 := (HT.out).trans (Turn.of_below b1); have h0 : (w1).cell? ⟨w.heap.size + 1, 0, none⟩ = some (.int .i64 (K : Int)) := Blk.cell H1 0; have h1 : (w1).cell? ⟨w.heap.size + 1, 1, none⟩ = some (.int .i64 (0 : Int)) := Blk.cell H1 1; have h2 : (w1).cell? ⟨w.heap.size + 1, 2, none⟩ = some (.int .i64 (0 : Int)) := Blk.cell H1 2; have h3 : (w1).cell? ⟨w.heap.size + 1, 3, none⟩ = some (.int .i64 (1 : Int)) := Blk.cell H1 3; have h4 : (w1).cell? ⟨w.heap.size + 1, 4, none⟩ = some (.int .i64 (0 : Int)) := Blk.cell H1 4; have h5 : (w1).cell? ⟨w.heap.size + 1, 5, none⟩ = some (.int .i64 (0 : Int)) := Blk.cell H1 5; have h6 : (w1).cell? ⟨w.heap.size + 1, 6, none⟩ = some (.int .i64 (0 : Int)) := Blk.cell H1 6; have zh0 := Blk.frozen H1 0; have zh1 := Blk.frozen H1 1; have zh2 := Blk.frozen H1 2; have zh3 := Blk.frozen H1 3; have zh4 := Blk.frozen H1 4; have zh5 := Blk.frozen H1 5; have zh6 := Blk.frozen H1 6; have lh := Blk.lt H1)
      | (go_at_call 28; refine (rbad_any (2) (f) _).mono ?_; rintro e w2 ⟨rfl, b2⟩; have R2 : Blk w2 w.heap.size 24 (h7 0 0 0 0 0 0 0) := Blk.below (Blk.alloc R1 _) b2 (Blk.lt (Blk.alloc R1 _)); have T2 : Turn [] w w2 := (T1.alloc _).trans (Turn.of_below b2); have r0 : (w2).cell? ⟨w.heap.size, 0, none⟩ = some (.int .i64 (0 : Int)) := Blk.cell R2 0; have r1 : (w2).cell? ⟨w.heap.size, 1, none⟩ = some (.int .i64 (0 : Int)) := Blk.cell R2 1; have r2 : (w2).cell? ⟨w.heap.size, 2, none⟩ = some (.int .i64 (0 : Int)) := Blk.cell R2 2; have r3 : (w2).cell? ⟨w.heap.size, 3, none⟩ = some (.int .i64 (0 : Int)) := Blk.cell R2 3; have r4 : (w2).cell? ⟨w.heap.size, 4, none⟩ = some (.int .i64 (0 : Int)) := Blk.cell R2 4; have r5 : (w2).cell? ⟨w.heap.size, 5, none⟩ = some (.int .i64 (0 : Int)) := Blk.cell R2 5; have r6 : (w2).cell? ⟨w.heap.size, 6, none⟩ = some (.int .i64 (0 : Int)) := Blk.cell R2 6; have zr0 := Blk.frozen R2 0; have zr1 := Blk.frozen R2 1; have zr2 := Blk.frozen R2 2; have zr3 := Blk.frozen R2 3; have zr4 := Blk.frozen R2 4; have zr5 := Blk.frozen R2 5; have zr6 := Blk.frozen R2 6; have lr := Blk.lt R2))
     have fz : Blk (st7 w2 w.heap.size (0 : Int) (0 : Int) (0 : Int) (0 : Int) (0 : Int) (2 : Int) (f : Int)) w.heap.size 24 (h7 (0 : Int) (0 : Int) (0 : Int) (0 : Int) (0 : Int) (2 : Int) (f : Int)) := Blk.st7 R2 (0 : Int) (0 : Int) (0 : Int) (0 : Int) (0 : Int) (2 : Int) (f : Int)
     have tz : Turn [] w (st7 w2 w.heap.size (0 : Int) (0 : Int) (0 : Int) (0 : Int) (0 : Int) (2 : Int) (f : Int)) := Turn.st7 T2 (0 : Int) (0 : Int) (0 : Int) (0 : Int) (0 : Int) (2 : Int) (f : Int) (Nat.le_refl _)
     change bodyPost _ _ _ _ _ ((st7 w2 w.heap.size (0 : Int) (0 : Int) (0 : Int) (0 : Int) (0 : Int) (2 : Int) (f : Int)))
     generalize (st7 w2 w.heap.size (0 : Int) (0 : Int) (0 : Int) (0 : Int) (0 : Int) (2 : Int) (f : Int)) = we at fz tz ⊢
     have q0 : we.cell? ⟨w.heap.size, 0, none⟩ = some (.int .i64 (0 : Int)) := Blk.cell fz 0
     have q1 : we.cell? ⟨w.heap.size, 1, none⟩ = some (.int .i64 (0 : Int)) := Blk.cell fz 1
     have q2 : we.cell? ⟨w.heap.size, 2, none⟩ = some (.int .i64 (0 : Int)) := Blk.cell fz 2
     have q3 : we.cell? ⟨w.heap.size, 3, none⟩ = some (.int .i64 (0 : Int)) := Blk.cell fz 3
     have q4 : we.cell? ⟨w.heap.size, 4, none⟩ = some (.int .i64 (0 : Int)) := Blk.cell fz 4
     have q5 : we.cell? ⟨w.heap.size, 5, none⟩ = some (.int .i64 (2 : Int)) := Blk.cell fz 5
     have q6 : we.cell? ⟨w.heap.size, 6, none⟩ = some (.int .i64 (f : Int)) := Blk.cell fz 6
     exact bodyPost_ret (v := .agg #[.int .i64 (0 : Int), .int .i64 (0 : Int), .int .i64 (0 : Int), .int .i64 (0 : Int), .int .i64 (0 : Int), .int .i64 (2 : Int), .int .i64 (f : Int)]) (by simp [results, Tryz.results9, go_sem, q0, q1, q2, q3, q4, q5, q6]) rfl ⟨by have e := HA.out; rw [← e]; rfl, tz.nilBelow⟩
    ·-- above
     have hc := fun w => refNumber_any s a w ha hs
     rw [hy] at hc
     have HC : Hid (∀ w : World, Calls Tryz.prog 29 #[.string s, .int .i64 (a : Int)] w fun e w' => e = .returned (.agg #[.int .i64 (V : Int), .int .i64 (f : Int), .int .i64 (nn : Int), .int .i64 (0 : Int), .int .i64 (0 : Int)]) ∧ Below w.heap.size w w') := Lib.hid hc
     have HR := Lib.hid hR
     have HH := Lib.hid hH
     have HT := Lib.hid hT
     have HA : Hid (hbad 3 f = x) := Lib.hid (by have e := hA.out; unfold hrest1 at e; simp only [q] at e; rw [if_pos (by decide)] at e; exact e)
     clear hA hy q hc
     clear hR hH hT
     have j0 : ¬ (V : Int) = 0 := by omega
     have j1 : (16384 : Int) < (V : Int) := by omega
     go_wp2_with (first
      | (go_at_call 29; refine (HC.out _).mono ?_; rintro e w1 ⟨rfl, b1⟩; have R1 : Blk w1 w.heap.size 24 (h7 0 0 0 0 0 0 0) := Blk.below HR.out b1 (Blk.lt HR.out); have H1 : Blk w1 (w.heap.size + 1) 24 (h7 K 0 0 1 0 0 0) := Blk.below HH.out b1 (Blk.lt HH.out); have T1 : Turn [] w w1 := (HT.out).trans (Turn.of_below b1); have h0 : (w1).cell? ⟨w.heap.size + 1, 0, none⟩ = some (.int .i64 (K : Int)) := Blk.cell H1 0; have h1 : (w1).cell? ⟨w.heap.size + 1, 1, none⟩ = some (.int .i64 (0 : Int)) := Blk.cell H1 1; have h2 : (w1).cell? ⟨w.heap.size + 1, 2, none⟩ = some (.int .i64 (0 : Int)) := Blk.cell H1 2; have h3 : (w1).cell? ⟨w.heap.size + 1, 3, none⟩ = some (.int .i64 (1 : Int)) := Blk.cell H1 3; have h4 : (w1).cell? ⟨w.heap.size + 1, 4, none⟩ = some (.int .i64 (0 : Int)) := Blk.cell H1 4; have h5 : (w1).cell? ⟨w.heap.size + 1, 5, none⟩ = some (.int .i64 (0 : Int)) := Blk.cell H1 5; have h6 : (w1).cell? ⟨w.heap.size + 1, 6, none⟩ = some (.int .i64 (0 : Int)) := Blk.cell H1 6; have zh0 := Blk.frozen H1 0; have zh1 := Blk.frozen H1 1; have zh2 := Blk.frozen H1 2; have zh3 := Blk.frozen H1 3; have zh4 := Blk.frozen H1 4; have zh5 := Blk.frozen H1 5; have zh6 := Blk.frozen H1 6; have lh := Blk.lt H1)
      | (go_at_call 28; refine (rbad_any (3) (f) _).mono ?_; rintro e w2 ⟨rfl, b2⟩; have R2 : Blk w2 w.heap.size 24 (h7 0 0 0 0 0 0 0) := Blk.below (Blk.alloc R1 _) b2 (Blk.lt (Blk.alloc R1 _)); have T2 : Turn [] w w2 := (T1.alloc _).trans (Turn.of_below b2); have r0 : (w2).cell? ⟨w.heap.size, 0, none⟩ = some (.int .i64 (0 : Int)) := Blk.cell R2 0; have r1 : (w2).cell? ⟨w.heap.size, 1, none⟩ = some (.int .i64 (0 : Int)) := Blk.cell R2 1; have r2 : (w2).cell? ⟨w.heap.size, 2, none⟩ = some (.int .i64 (0 : Int)) := Blk.cell R2 2; have r3 : (w2).cell? ⟨w.heap.size, 3, none⟩ = some (.int .i64 (0 : Int)) := Blk.cell R2 3; have r4 : (w2).cell? ⟨w.heap.size, 4, none⟩ = some (.int .i64 (0 : Int)) := Blk.cell R2 4; have r5 : (w2).cell? ⟨w.heap.size, 5, none⟩ = some (.int .i64 (0 : Int)) := Blk.cell R2 5; have r6 : (w2).cell? ⟨w.heap.size, 6, none⟩ = some (.int .i64 (0 : Int)) := Blk.cell R2 6; have zr0 := Blk.frozen R2 0; have zr1 := Blk.frozen R2 1; have zr2 := Blk.frozen R2 2; have zr3 := Blk.frozen R2 3; have zr4 := Blk.frozen R2 4; have zr5 := Blk.frozen R2 5; have zr6 := Blk.frozen R2 6; have lr := Blk.lt R2))
     have fz : Blk (st7 w2 w.heap.size (0 : Int) (0 : Int) (0 : Int) (0 : Int) (0 : Int) (3 : Int) (f : Int)) w.heap.size 24 (h7 (0 : Int) (0 : Int) (0 : Int) (0 : Int) (0 : Int) (3 : Int) (f : Int)) := Blk.st7 R2 (0 : Int) (0 : Int) (0 : Int) (0 : Int) (0 : Int) (3 : Int) (f : Int)
     have tz : Turn [] w (st7 w2 w.heap.size (0 : Int) (0 : Int) (0 : Int) (0 : Int) (0 : Int) (3 : Int) (f : Int)) := Turn.st7 T2 (0 : Int) (0 : Int) (0 : Int) (0 : Int) (0 : Int) (3 : Int) (f : Int) (Nat.le_refl _)
     change bodyPost _ _ _ _ _ ((st7 w2 w.heap.size (0 : Int) (0 : Int) (0 : Int) (0 : Int) (0 : Int) (3 : Int) (f : Int)))
     generalize (st7 w2 w.heap.size (0 : Int) (0 : Int) (0 : Int) (0 : Int) (0 : Int) (3 : Int) (f : Int)) = we at fz tz ⊢
     have q0 : we.cell? ⟨w.heap.size, 0, none⟩ = some (.int .i64 (0 : Int)) := Blk.cell fz 0
     have q1 : we.cell? ⟨w.heap.size, 1, none⟩ = some (.int .i64 (0 : Int)) := Blk.cell fz 1
     have q2 : we.cell? ⟨w.heap.size, 2, none⟩ = some (.int .i64 (0 : Int)) := Blk.cell fz 2
     have q3 : we.cell? ⟨w.heap.size, 3, none⟩ = some (.int .i64 (0 : Int)) := Blk.cell fz 3
     have q4 : we.cell? ⟨w.heap.size, 4, none⟩ = some (.int .i64 (0 : Int)) := Blk.cell fz 4
     have q5 : we.cell? ⟨w.heap.size, 5, none⟩ = some (.int .i64 (3 : Int)) := Blk.cell fz 5
     have q6 : we.cell? ⟨w.heap.size, 6, none⟩ = some (.int .i64 (f : Int)) := Blk.cell fz 6
     exact bodyPost_ret (v := .agg #[.int .i64 (0 : Int), .int .i64 (0 : Int), .int .i64 (0 : Int), .int .i64 (0 : Int), .int .i64 (0 : Int), .int .i64 (3 : Int), .int .i64 (f : Int)]) (by simp [results, Tryz.results9, go_sem, q0, q1, q2, q3, q4, q5, q6]) rfl ⟨by have e := HA.out; rw [← e]; rfl, tz.nilBelow⟩
    ·-- ok
     have hc := fun w => refNumber_any s a w ha hs
     rw [hy] at hc
     have HC : Hid (∀ w : World, Calls Tryz.prog 29 #[.string s, .int .i64 (a : Int)] w fun e w' => e = .returned (.agg #[.int .i64 (V : Int), .int .i64 (f : Int), .int .i64 (nn : Int), .int .i64 (0 : Int), .int .i64 (0 : Int)]) ∧ Below w.heap.size w w') := Lib.hid hc
     have HR := Lib.hid hR
     have HH := Lib.hid hH
     have HT := Lib.hid hT
     have HA : Hid (hrest2 (nats s) K V nn = x) := Lib.hid (by have e := hA.out; unfold hrest1 at e; simp only [q] at e; rw [if_neg (by simp)] at e; exact e)
     clear hA hy q hc
     clear hR hH hT
     have j0 : ¬ (V : Int) = 0 := by omega
     have j1 : ¬ (16384 : Int) < (V : Int) := by omega
     go_wp2_with (first
      | (go_at_call 29; refine (HC.out _).mono ?_; rintro e w1 ⟨rfl, b1⟩; have R1 : Blk w1 w.heap.size 24 (h7 0 0 0 0 0 0 0) := Blk.below HR.out b1 (Blk.lt HR.out); have H1 : Blk w1 (w.heap.size + 1) 24 (h7 K 0 0 1 0 0 0) := Blk.below HH.out b1 (Blk.lt HH.out); have T1 : Turn [] w w1 := (HT.out).trans (Turn.of_below b1); have h0 : (w1).cell? ⟨w.heap.size + 1, 0, none⟩ = some (.int .i64 (K : Int)) := Blk.cell H1 0; have h1 : (w1).cell? ⟨w.heap.size + 1, 1, none⟩ = some (.int .i64 (0 : Int)) := Blk.cell H1 1; have h2 : (w1).cell? ⟨w.heap.size + 1, 2, none⟩ = some (.int .i64 (0 : Int)) := Blk.cell H1 2; have h3 : (w1).cell? ⟨w.heap.size + 1, 3, none⟩ = some (.int .i64 (1 : Int)) := Blk.cell H1 3; have h4 : (w1).cell? ⟨w.heap.size + 1, 4, none⟩ = some (.int .i64 (0 : Int)) := Blk.cell H1 4; have h5 : (w1).cell? ⟨w.heap.size + 1, 5, none⟩ = some (.int .i64 (0 : Int)) := Blk.cell H1 5; have h6 : (w1).cell? ⟨w.heap.size + 1, 6, none⟩ = some (.int .i64 (0 : Int)) := Blk.cell H1 6; have zh0 := Blk.frozen H1 0; have zh1 := Blk.frozen H1 1; have zh2 := Blk.frozen H1 2; have zh3 := Blk.frozen H1 3; have zh4 := Blk.frozen H1 4; have zh5 := Blk.frozen H1 5; have zh6 := Blk.frozen H1 6; have lh := Blk.lt H1))
     have R2 : Blk ((w1.setCell ⟨w.heap.size + 1, 1, none⟩ (.int .i64 (V : Int))).alloc (.cells #[.int .i64 (V : Int), .int .i64 (f : Int), .int .i64 (nn : Int), .int .i64 (0 : Int), .int .i64 (0 : Int)] 54)) w.heap.size 24 (h7 0 0 0 0 0 0 0) := ((R1).far (p := ⟨w.heap.size + 1, 1, none⟩) (show w.heap.size ≠ w.heap.size + 1 by omega) _).alloc _
     have H2 : Blk ((w1.setCell ⟨w.heap.size + 1, 1, none⟩ (.int .i64 (V : Int))).alloc (.cells #[.int .i64 (V : Int), .int .i64 (f : Int), .int .i64 (nn : Int), .int .i64 (0 : Int), .int .i64 (0 : Int)] 54)) (w.heap.size + 1) 24 (h7 K V 0 1 0 0 0) := ((H1.set_ 1 _).eq_ (by simp [h7])).alloc _
     have T2 : Turn [] w ((w1.setCell ⟨w.heap.size + 1, 1, none⟩ (.int .i64 (V : Int))).alloc (.cells #[.int .i64 (V : Int), .int .i64 (f : Int), .int .i64 (nn : Int), .int .i64 (0 : Int), .int .i64 (0 : Int)] 54)) := (T1.set_ 1 _ (.inr (by omega))).alloc _
     go_roundg 2
     case measure => decide
     case rel => exact ⟨nn, V, 0, 1, by decide, rfl, by omega, by omega, by omega, by omega, R2, H2, T2, .inr (.inl ⟨rfl, rfl, rfl, rfl, HA⟩)⟩
   ·rcases hnum_or (nats s) a 16384 3 (by omega) with ⟨kd, pl, hy, q, k0, k2, hp⟩ | ⟨f, nn, hy, q, hp⟩ | ⟨V, f, nn, hy, q, v0, vm, hp, hV⟩ | ⟨V, f, nn, hy, q, v0, vm, hn, han, hp⟩
    ·-- bad
     have hc := fun w => refNumber_any s a w ha hs
     rw [hy] at hc
     have HC : Hid (∀ w : World, Calls Tryz.prog 29 #[.string s, .int .i64 (a : Int)] w fun e w' => e = .returned (.agg #[.int .i64 (0 : Int), .int .i64 (0 : Int), .int .i64 (0 : Int), .int .i64 (kd : Int), .int .i64 (pl : Int)]) ∧ Below w.heap.size w w') := Lib.hid hc
     have HR := Lib.hid hR
     have HH := Lib.hid hH
     have HT := Lib.hid hT
     have HA : Hid (hbad kd pl = x) := Lib.hid (by have e := hA.out; unfold hrest2 at e; simp only [q] at e; rw [if_pos k0] at e; exact e)
     clear hA hy q hc
     clear hR hH hT
     have j0 : ¬ (kd : Int) = 0 := by omega
     go_wp2_with (first
      | (go_at_call 29; refine (HC.out _).mono ?_; rintro e w1 ⟨rfl, b1⟩; have R1 : Blk w1 w.heap.size 24 (h7 0 0 0 0 0 0 0) := Blk.below HR.out b1 (Blk.lt HR.out); have H1 : Blk w1 (w.heap.size + 1) 24 (h7 K W 0 1 0 0 0) := Blk.below HH.out b1 (Blk.lt HH.out); have T1 : Turn [] w w1 := (HT.out).trans (Turn.of_below b1); have h0 : (w1).cell? ⟨w.heap.size + 1, 0, none⟩ = some (.int .i64 (K : Int)) := Blk.cell H1 0; have h1 : (w1).cell? ⟨w.heap.size + 1, 1, none⟩ = some (.int .i64 (W : Int)) := Blk.cell H1 1; have h2 : (w1).cell? ⟨w.heap.size + 1, 2, none⟩ = some (.int .i64 (0 : Int)) := Blk.cell H1 2; have h3 : (w1).cell? ⟨w.heap.size + 1, 3, none⟩ = some (.int .i64 (1 : Int)) := Blk.cell H1 3; have h4 : (w1).cell? ⟨w.heap.size + 1, 4, none⟩ = some (.int .i64 (0 : Int)) := Blk.cell H1 4; have h5 : (w1).cell? ⟨w.heap.size + 1, 5, none⟩ = some (.int .i64 (0 : Int)) := Blk.cell H1 5; have h6 : (w1).cell? ⟨w.heap.size + 1, 6, none⟩ = some (.int .i64 (0 : Int)) := Blk.cell H1 6; have zh0 := Blk.frozen H1 0; have zh1 := Blk.frozen H1 1; have zh2 := Blk.frozen H1 2; have zh3 := Blk.frozen H1 3; have zh4 := Blk.frozen H1 4; have zh5 := Blk.frozen H1 5; have zh6 := Blk.frozen H1 6; have lh := Blk.lt H1)
      | (go_at_call 28; refine (rbad_any (kd) (pl) _).mono ?_; rintro e w2 ⟨rfl, b2⟩; have R2 : Blk w2 w.heap.size 24 (h7 0 0 0 0 0 0 0) := Blk.below (Blk.alloc R1 _) b2 (Blk.lt (Blk.alloc R1 _)); have T2 : Turn [] w w2 := (T1.alloc _).trans (Turn.of_below b2); have r0 : (w2).cell? ⟨w.heap.size, 0, none⟩ = some (.int .i64 (0 : Int)) := Blk.cell R2 0; have r1 : (w2).cell? ⟨w.heap.size, 1, none⟩ = some (.int .i64 (0 : Int)) := Blk.cell R2 1; have r2 : (w2).cell? ⟨w.heap.size, 2, none⟩ = some (.int .i64 (0 : Int)) := Blk.cell R2 2; have r3 : (w2).cell? ⟨w.heap.size, 3, none⟩ = some (.int .i64 (0 : Int)) := Blk.cell R2 3; have r4 : (w2).cell? ⟨w.heap.size, 4, none⟩ = some (.int .i64 (0 : Int)) := Blk.cell R2 4; have r5 : (w2).cell? ⟨w.heap.size, 5, none⟩ = some (.int .i64 (0 : Int)) := Blk.cell R2 5; have r6 : (w2).cell? ⟨w.heap.size, 6, none⟩ = some (.int .i64 (0 : Int)) := Blk.cell R2 6; have zr0 := Blk.frozen R2 0; have zr1 := Blk.frozen R2 1; have zr2 := Blk.frozen R2 2; have zr3 := Blk.frozen R2 3; have zr4 := Blk.frozen R2 4; have zr5 := Blk.frozen R2 5; have zr6 := Blk.frozen R2 6; have lr := Blk.lt R2))
     have fz : Blk (st7 w2 w.heap.size (0 : Int) (0 : Int) (0 : Int) (0 : Int) (0 : Int) (kd : Int) (pl : Int)) w.heap.size 24 (h7 (0 : Int) (0 : Int) (0 : Int) (0 : Int) (0 : Int) (kd : Int) (pl : Int)) := Blk.st7 R2 (0 : Int) (0 : Int) (0 : Int) (0 : Int) (0 : Int) (kd : Int) (pl : Int)
     have tz : Turn [] w (st7 w2 w.heap.size (0 : Int) (0 : Int) (0 : Int) (0 : Int) (0 : Int) (kd : Int) (pl : Int)) := Turn.st7 T2 (0 : Int) (0 : Int) (0 : Int) (0 : Int) (0 : Int) (kd : Int) (pl : Int) (Nat.le_refl _)
     change bodyPost _ _ _ _ _ ((st7 w2 w.heap.size (0 : Int) (0 : Int) (0 : Int) (0 : Int) (0 : Int) (kd : Int) (pl : Int)))
     generalize (st7 w2 w.heap.size (0 : Int) (0 : Int) (0 : Int) (0 : Int) (0 : Int) (kd : Int) (pl : Int)) = we at fz tz ⊢
     have q0 : we.cell? ⟨w.heap.size, 0, none⟩ = some (.int .i64 (0 : Int)) := Blk.cell fz 0
     have q1 : we.cell? ⟨w.heap.size, 1, none⟩ = some (.int .i64 (0 : Int)) := Blk.cell fz 1
     have q2 : we.cell? ⟨w.heap.size, 2, none⟩ = some (.int .i64 (0 : Int)) := Blk.cell fz 2
     have q3 : we.cell? ⟨w.heap.size, 3, none⟩ = some (.int .i64 (0 : Int)) := Blk.cell fz 3
     have q4 : we.cell? ⟨w.heap.size, 4, none⟩ = some (.int .i64 (0 : Int)) := Blk.cell fz 4
     have q5 : we.cell? ⟨w.heap.size, 5, none⟩ = some (.int .i64 (kd : Int)) := Blk.cell fz 5
     have q6 : we.cell? ⟨w.heap.size, 6, none⟩ = some (.int .i64 (pl : Int)) := Blk.cell fz 6
     exact bodyPost_ret (v := .agg #[.int .i64 (0 : Int), .int .i64 (0 : Int), .int .i64 (0 : Int), .int .i64 (0 : Int), .int .i64 (0 : Int), .int .i64 (kd : Int), .int .i64 (pl : Int)]) (by simp [results, Tryz.results9, go_sem, q0, q1, q2, q3, q4, q5, q6]) rfl ⟨by have e := HA.out; rw [← e]; rfl, tz.nilBelow⟩
    ·-- zero
     have hc := fun w => refNumber_any s a w ha hs
     rw [hy] at hc
     have HC : Hid (∀ w : World, Calls Tryz.prog 29 #[.string s, .int .i64 (a : Int)] w fun e w' => e = .returned (.agg #[.int .i64 (0 : Int), .int .i64 (f : Int), .int .i64 (nn : Int), .int .i64 (0 : Int), .int .i64 (0 : Int)]) ∧ Below w.heap.size w w') := Lib.hid hc
     have HR := Lib.hid hR
     have HH := Lib.hid hH
     have HT := Lib.hid hT
     have HA : Hid (hbad 2 f = x) := Lib.hid (by have e := hA.out; unfold hrest2 at e; simp only [q] at e; rw [if_pos (by decide)] at e; exact e)
     clear hA hy q hc
     clear hR hH hT
     go_wp2_with (first
      | (go_at_call 29; refine (HC.out _).mono ?_; rintro e w1 ⟨rfl, b1⟩; have R1 : Blk w1 w.heap.size 24 (h7 0 0 0 0 0 0 0) := Blk.below HR.out b1 (Blk.lt HR.out); have H1 : Blk w1 (w.heap.size + 1) 24 (h7 K W 0 1 0 0 0) := Blk.below HH.out b1 (Blk.lt HH.out); have T1 : Turn [] w w1 := (HT.out).trans (Turn.of_below b1); have h0 : (w1).cell? ⟨w.heap.size + 1, 0, none⟩ = some (.int .i64 (K : Int)) := Blk.cell H1 0; have h1 : (w1).cell? ⟨w.heap.size + 1, 1, none⟩ = some (.int .i64 (W : Int)) := Blk.cell H1 1; have h2 : (w1).cell? ⟨w.heap.size + 1, 2, none⟩ = some (.int .i64 (0 : Int)) := Blk.cell H1 2; have h3 : (w1).cell? ⟨w.heap.size + 1, 3, none⟩ = some (.int .i64 (1 : Int)) := Blk.cell H1 3; have h4 : (w1).cell? ⟨w.heap.size + 1, 4, none⟩ = some (.int .i64 (0 : Int)) := Blk.cell H1 4; have h5 : (w1).cell? ⟨w.heap.size + 1, 5, none⟩ = some (.int .i64 (0 : Int)) := Blk.cell H1 5; have h6 : (w1).cell? ⟨w.heap.size + 1, 6, none⟩ = some (.int .i64 (0 : Int)) := Blk.cell H1 6; have zh0 := Blk.frozen H1 0; have zh1 := Blk.frozen H1 1; have zh2 := Blk.frozen H1 2; have zh3 := Blk.frozen H1 3; have zh4 := Blk.frozen H1 4; have zh5 := Blk.frozen H1 5; have zh6 := Blk.frozen H1 6; have lh := Blk.lt H1)
      | (go_at_call 28; refine (rbad_any (2) (f) _).mono ?_; rintro e w2 ⟨rfl, b2⟩; have R2 : Blk w2 w.heap.size 24 (h7 0 0 0 0 0 0 0) := Blk.below (Blk.alloc R1 _) b2 (Blk.lt (Blk.alloc R1 _)); have T2 : Turn [] w w2 := (T1.alloc _).trans (Turn.of_below b2); have r0 : (w2).cell? ⟨w.heap.size, 0, none⟩ = some (.int .i64 (0 : Int)) := Blk.cell R2 0; have r1 : (w2).cell? ⟨w.heap.size, 1, none⟩ = some (.int .i64 (0 : Int)) := Blk.cell R2 1; have r2 : (w2).cell? ⟨w.heap.size, 2, none⟩ = some (.int .i64 (0 : Int)) := Blk.cell R2 2; have r3 : (w2).cell? ⟨w.heap.size, 3, none⟩ = some (.int .i64 (0 : Int)) := Blk.cell R2 3; have r4 : (w2).cell? ⟨w.heap.size, 4, none⟩ = some (.int .i64 (0 : Int)) := Blk.cell R2 4; have r5 : (w2).cell? ⟨w.heap.size, 5, none⟩ = some (.int .i64 (0 : Int)) := Blk.cell R2 5; have r6 : (w2).cell? ⟨w.heap.size, 6, none⟩ = some (.int .i64 (0 : Int)) := Blk.cell R2 6; have zr0 := Blk.frozen R2 0; have zr1 := Blk.frozen R2 1; have zr2 := Blk.frozen R2 2; have zr3 := Blk.frozen R2 3; have zr4 := Blk.frozen R2 4; have zr5 := Blk.frozen R2 5; have zr6 := Blk.frozen R2 6; have lr := Blk.lt R2))
     have fz : Blk (st7 w2 w.heap.size (0 : Int) (0 : Int) (0 : Int) (0 : Int) (0 : Int) (2 : Int) (f : Int)) w.heap.size 24 (h7 (0 : Int) (0 : Int) (0 : Int) (0 : Int) (0 : Int) (2 : Int) (f : Int)) := Blk.st7 R2 (0 : Int) (0 : Int) (0 : Int) (0 : Int) (0 : Int) (2 : Int) (f : Int)
     have tz : Turn [] w (st7 w2 w.heap.size (0 : Int) (0 : Int) (0 : Int) (0 : Int) (0 : Int) (2 : Int) (f : Int)) := Turn.st7 T2 (0 : Int) (0 : Int) (0 : Int) (0 : Int) (0 : Int) (2 : Int) (f : Int) (Nat.le_refl _)
     change bodyPost _ _ _ _ _ ((st7 w2 w.heap.size (0 : Int) (0 : Int) (0 : Int) (0 : Int) (0 : Int) (2 : Int) (f : Int)))
     generalize (st7 w2 w.heap.size (0 : Int) (0 : Int) (0 : Int) (0 : Int) (0 : Int) (2 : Int) (f : Int)) = we at fz tz ⊢
     have q0 : we.cell? ⟨w.heap.size, 0, none⟩ = some (.int .i64 (0 : Int)) := Blk.cell fz 0
     have q1 : we.cell? ⟨w.heap.size, 1, none⟩ = some (.int .i64 (0 : Int)) := Blk.cell fz 1
     have q2 : we.cell? ⟨w.heap.size, 2, none⟩ = some (.int .i64 (0 : Int)) := Blk.cell fz 2
     have q3 : we.cell? ⟨w.heap.size, 3, none⟩ = some (.int .i64 (0 : Int)) := Blk.cell fz 3
     have q4 : we.cell? ⟨w.heap.size, 4, none⟩ = some (.int .i64 (0 : Int)) := Blk.cell fz 4
     have q5 : we.cell? ⟨w.heap.size, 5, none⟩ = some (.int .i64 (2 : Int)) := Blk.cell fz 5
     have q6 : we.cell? ⟨w.heap.size, 6, none⟩ = some (.int .i64 (f : Int)) := Blk.cell fz 6
     exact bodyPost_ret (v := .agg #[.int .i64 (0 : Int), .int .i64 (0 : Int), .int .i64 (0 : Int), .int .i64 (0 : Int), .int .i64 (0 : Int), .int .i64 (2 : Int), .int .i64 (f : Int)]) (by simp [results, Tryz.results9, go_sem, q0, q1, q2, q3, q4, q5, q6]) rfl ⟨by have e := HA.out; rw [← e]; rfl, tz.nilBelow⟩
    ·-- above
     have hc := fun w => refNumber_any s a w ha hs
     rw [hy] at hc
     have HC : Hid (∀ w : World, Calls Tryz.prog 29 #[.string s, .int .i64 (a : Int)] w fun e w' => e = .returned (.agg #[.int .i64 (V : Int), .int .i64 (f : Int), .int .i64 (nn : Int), .int .i64 (0 : Int), .int .i64 (0 : Int)]) ∧ Below w.heap.size w w') := Lib.hid hc
     have HR := Lib.hid hR
     have HH := Lib.hid hH
     have HT := Lib.hid hT
     have HA : Hid (hbad 3 f = x) := Lib.hid (by have e := hA.out; unfold hrest2 at e; simp only [q] at e; rw [if_pos (by decide)] at e; exact e)
     clear hA hy q hc
     clear hR hH hT
     have j0 : ¬ (V : Int) = 0 := by omega
     have j1 : (16384 : Int) < (V : Int) := by omega
     go_wp2_with (first
      | (go_at_call 29; refine (HC.out _).mono ?_; rintro e w1 ⟨rfl, b1⟩; have R1 : Blk w1 w.heap.size 24 (h7 0 0 0 0 0 0 0) := Blk.below HR.out b1 (Blk.lt HR.out); have H1 : Blk w1 (w.heap.size + 1) 24 (h7 K W 0 1 0 0 0) := Blk.below HH.out b1 (Blk.lt HH.out); have T1 : Turn [] w w1 := (HT.out).trans (Turn.of_below b1); have h0 : (w1).cell? ⟨w.heap.size + 1, 0, none⟩ = some (.int .i64 (K : Int)) := Blk.cell H1 0; have h1 : (w1).cell? ⟨w.heap.size + 1, 1, none⟩ = some (.int .i64 (W : Int)) := Blk.cell H1 1; have h2 : (w1).cell? ⟨w.heap.size + 1, 2, none⟩ = some (.int .i64 (0 : Int)) := Blk.cell H1 2; have h3 : (w1).cell? ⟨w.heap.size + 1, 3, none⟩ = some (.int .i64 (1 : Int)) := Blk.cell H1 3; have h4 : (w1).cell? ⟨w.heap.size + 1, 4, none⟩ = some (.int .i64 (0 : Int)) := Blk.cell H1 4; have h5 : (w1).cell? ⟨w.heap.size + 1, 5, none⟩ = some (.int .i64 (0 : Int)) := Blk.cell H1 5; have h6 : (w1).cell? ⟨w.heap.size + 1, 6, none⟩ = some (.int .i64 (0 : Int)) := Blk.cell H1 6; have zh0 := Blk.frozen H1 0; have zh1 := Blk.frozen H1 1; have zh2 := Blk.frozen H1 2; have zh3 := Blk.frozen H1 3; have zh4 := Blk.frozen H1 4; have zh5 := Blk.frozen H1 5; have zh6 := Blk.frozen H1 6; have lh := Blk.lt H1)
      | (go_at_call 28; refine (rbad_any (3) (f) _).mono ?_; rintro e w2 ⟨rfl, b2⟩; have R2 : Blk w2 w.heap.size 24 (h7 0 0 0 0 0 0 0) := Blk.below (Blk.alloc R1 _) b2 (Blk.lt (Blk.alloc R1 _)); have T2 : Turn [] w w2 := (T1.alloc _).trans (Turn.of_below b2); have r0 : (w2).cell? ⟨w.heap.size, 0, none⟩ = some (.int .i64 (0 : Int)) := Blk.cell R2 0; have r1 : (w2).cell? ⟨w.heap.size, 1, none⟩ = some (.int .i64 (0 : Int)) := Blk.cell R2 1; have r2 : (w2).cell? ⟨w.heap.size, 2, none⟩ = some (.int .i64 (0 : Int)) := Blk.cell R2 2; have r3 : (w2).cell? ⟨w.heap.size, 3, none⟩ = some (.int .i64 (0 : Int)) := Blk.cell R2 3; have r4 : (w2).cell? ⟨w.heap.size, 4, none⟩ = some (.int .i64 (0 : Int)) := Blk.cell R2 4; have r5 : (w2).cell? ⟨w.heap.size, 5, none⟩ = some (.int .i64 (0 : Int)) := Blk.cell R2 5; have r6 : (w2).cell? ⟨w.heap.size, 6, none⟩ = some (.int .i64 (0 : Int)) := Blk.cell R2 6; have zr0 := Blk.frozen R2 0; have zr1 := Blk.frozen R2 1; have zr2 := Blk.frozen R2 2; have zr3 := Blk.frozen R2 3; have zr4 := Blk.frozen R2 4; have zr5 := Blk.frozen R2 5; have zr6 := Blk.frozen R2 6; have lr := Blk.lt R2))
     have fz : Blk (st7 w2 w.heap.size (0 : Int) (0 : Int) (0 : Int) (0 : Int) (0 : Int) (3 : Int) (f : Int)) w.heap.size 24 (h7 (0 : Int) (0 : Int) (0 : Int) (0 : Int) (0 : Int) (3 : Int) (f : Int)) := Blk.st7 R2 (0 : Int) (0 : Int) (0 : Int) (0 : Int) (0 : Int) (3 : Int) (f : Int)
     have tz : Turn [] w (st7 w2 w.heap.size (0 : Int) (0 : Int) (0 : Int) (0 : Int) (0 : Int) (3 : Int) (f : Int)) := Turn.st7 T2 (0 : Int) (0 : Int) (0 : Int) (0 : Int) (0 : Int) (3 : Int) (f : Int) (Nat.le_refl _)
     change bodyPost _ _ _ _ _ ((st7 w2 w.heap.size (0 : Int) (0 : Int) (0 : Int) (0 : Int) (0 : Int) (3 : Int) (f : Int)))
     generalize (st7 w2 w.heap.size (0 : Int) (0 : Int) (0 : Int) (0 : Int) (0 : Int) (3 : Int) (f : Int)) = we at fz tz ⊢
     have q0 : we.cell? ⟨w.heap.size, 0, none⟩ = some (.int .i64 (0 : Int)) := Blk.cell fz 0
     have q1 : we.cell? ⟨w.heap.size, 1, none⟩ = some (.int .i64 (0 : Int)) := Blk.cell fz 1
     have q2 : we.cell? ⟨w.heap.size, 2, none⟩ = some (.int .i64 (0 : Int)) := Blk.cell fz 2
     have q3 : we.cell? ⟨w.heap.size, 3, none⟩ = some (.int .i64 (0 : Int)) := Blk.cell fz 3
     have q4 : we.cell? ⟨w.heap.size, 4, none⟩ = some (.int .i64 (0 : Int)) := Blk.cell fz 4
     have q5 : we.cell? ⟨w.heap.size, 5, none⟩ = some (.int .i64 (3 : Int)) := Blk.cell fz 5
     have q6 : we.cell? ⟨w.heap.size, 6, none⟩ = some (.int .i64 (f : Int)) := Blk.cell fz 6
     exact bodyPost_ret (v := .agg #[.int .i64 (0 : Int), .int .i64 (0 : Int), .int .i64 (0 : Int), .int .i64 (0 : Int), .int .i64 (0 : Int), .int .i64 (3 : Int), .int .i64 (f : Int)]) (by simp [results, Tryz.results9, go_sem, q0, q1, q2, q3, q4, q5, q6]) rfl ⟨by have e := HA.out; rw [← e]; rfl, tz.nilBelow⟩
    ·-- ok
     have hc := fun w => refNumber_any s a w ha hs
     rw [hy] at hc
     have HC : Hid (∀ w : World, Calls Tryz.prog 29 #[.string s, .int .i64 (a : Int)] w fun e w' => e = .returned (.agg #[.int .i64 (V : Int), .int .i64 (f : Int), .int .i64 (nn : Int), .int .i64 (0 : Int), .int .i64 (0 : Int)]) ∧ Below w.heap.size w w') := Lib.hid hc
     have HR := Lib.hid hR
     have HH := Lib.hid hH
     have HT := Lib.hid hT
     have HA : Hid (hmost (nats s) K W V nn = x) := Lib.hid (by have e := hA.out; unfold hrest2 at e; simp only [q] at e; rw [if_neg (by simp)] at e; exact e)
     clear hA hy q hc
     clear hR hH hT
     have j0 : ¬ (V : Int) = 0 := by omega
     have j1 : ¬ (16384 : Int) < (V : Int) := by omega
     go_wp2_with (first
      | (go_at_call 29; refine (HC.out _).mono ?_; rintro e w1 ⟨rfl, b1⟩; have R1 : Blk w1 w.heap.size 24 (h7 0 0 0 0 0 0 0) := Blk.below HR.out b1 (Blk.lt HR.out); have H1 : Blk w1 (w.heap.size + 1) 24 (h7 K W 0 1 0 0 0) := Blk.below HH.out b1 (Blk.lt HH.out); have T1 : Turn [] w w1 := (HT.out).trans (Turn.of_below b1); have h0 : (w1).cell? ⟨w.heap.size + 1, 0, none⟩ = some (.int .i64 (K : Int)) := Blk.cell H1 0; have h1 : (w1).cell? ⟨w.heap.size + 1, 1, none⟩ = some (.int .i64 (W : Int)) := Blk.cell H1 1; have h2 : (w1).cell? ⟨w.heap.size + 1, 2, none⟩ = some (.int .i64 (0 : Int)) := Blk.cell H1 2; have h3 : (w1).cell? ⟨w.heap.size + 1, 3, none⟩ = some (.int .i64 (1 : Int)) := Blk.cell H1 3; have h4 : (w1).cell? ⟨w.heap.size + 1, 4, none⟩ = some (.int .i64 (0 : Int)) := Blk.cell H1 4; have h5 : (w1).cell? ⟨w.heap.size + 1, 5, none⟩ = some (.int .i64 (0 : Int)) := Blk.cell H1 5; have h6 : (w1).cell? ⟨w.heap.size + 1, 6, none⟩ = some (.int .i64 (0 : Int)) := Blk.cell H1 6; have zh0 := Blk.frozen H1 0; have zh1 := Blk.frozen H1 1; have zh2 := Blk.frozen H1 2; have zh3 := Blk.frozen H1 3; have zh4 := Blk.frozen H1 4; have zh5 := Blk.frozen H1 5; have zh6 := Blk.frozen H1 6; have lh := Blk.lt H1))
     have R2 : Blk ((w1.setCell ⟨w.heap.size + 1, 2, none⟩ (.int .i64 (V : Int))).alloc (.cells #[.int .i64 (V : Int), .int .i64 (f : Int), .int .i64 (nn : Int), .int .i64 (0 : Int), .int .i64 (0 : Int)] 54)) w.heap.size 24 (h7 0 0 0 0 0 0 0) := ((R1).far (p := ⟨w.heap.size + 1, 2, none⟩) (show w.heap.size ≠ w.heap.size + 1 by omega) _).alloc _
     have H2 : Blk ((w1.setCell ⟨w.heap.size + 1, 2, none⟩ (.int .i64 (V : Int))).alloc (.cells #[.int .i64 (V : Int), .int .i64 (f : Int), .int .i64 (nn : Int), .int .i64 (0 : Int), .int .i64 (0 : Int)] 54)) (w.heap.size + 1) 24 (h7 K W V 1 0 0 0) := ((H1.set_ 2 _).eq_ (by simp [h7])).alloc _
     have T2 : Turn [] w ((w1.setCell ⟨w.heap.size + 1, 2, none⟩ (.int .i64 (V : Int))).alloc (.cells #[.int .i64 (V : Int), .int .i64 (f : Int), .int .i64 (nn : Int), .int .i64 (0 : Int), .int .i64 (0 : Int)] 54)) := (T1.set_ 2 _ (.inr (by omega))).alloc _
     go_roundg 1
     case measure => decide
     case rel => exact ⟨nn, W, V, 1, by decide, rfl, by omega, by omega, by omega, by omega, R2, H2, T2, .inr (.inr (.inl ⟨rfl, rfl, rfl, HA⟩))⟩
   ·by_cases hbm : K = 1 ∨ K = 4
    ·have HA : Hid (hfin (nats s) K W Hh 1 a = x) := Lib.hid (by have e := hA.out; unfold hmost at e; rw [if_pos hbm] at e; exact e)
     clear hA
     have HR := Lib.hid hR
     have HH := Lib.hid hH
     have HT := Lib.hid hT
     clear hR hH hT
     by_cases hk1 : K = 1
     ·subst hk1
      go_wp2_with fail
      go_roundg 0
      case measure => decide
      case rel => exact ⟨a, W, Hh, 1, by decide, rfl, by omega, by omega, by omega, by omega, HR.out, HH.out, HT.out, .inr (.inr (.inr ⟨rfl, rfl, HA⟩))⟩
     ·obtain rfl : K = 4 := by omega
      go_wp2_with fail
      go_roundg 0
      case measure => decide
      case rel => exact ⟨a, W, Hh, 1, by decide, rfl, by omega, by omega, by omega, by omega, HR.out, HH.out, HT.out, .inr (.inr (.inr ⟨rfl, rfl, HA⟩))⟩
    ·have n1 : ¬ (K : Int) = 1 := by omega
     have n4 : ¬ (K : Int) = 4 := by omega
     have m1 : ¬ K = 1 := by omega
     have m4 : ¬ K = 4 := by omega
     have u1 : ((K : Int) == 1) = false := beq_eq_false_iff_ne.2 n1
     have u4 : ((K : Int) == 4) = false := beq_eq_false_iff_ne.2 n4
     rcases hnum_or (nats s) a 65535 2 (by omega) with ⟨kd, pl, hy, q, k0, k2, hp⟩ | ⟨f, nn, hy, q, hp⟩ | ⟨V, f, nn, hy, q, v0, vm, hp, hV⟩ | ⟨V, f, nn, hy, q, v0, vm, hn, han, hp⟩
     ·-- bad
      have hc := fun w => refNumber_any s a w ha hs
      rw [hy] at hc
      have HC : Hid (∀ w : World, Calls Tryz.prog 29 #[.string s, .int .i64 (a : Int)] w fun e w' => e = .returned (.agg #[.int .i64 (0 : Int), .int .i64 (0 : Int), .int .i64 (0 : Int), .int .i64 (kd : Int), .int .i64 (pl : Int)]) ∧ Below w.heap.size w w') := Lib.hid hc
      have HR := Lib.hid hR
      have HH := Lib.hid hH
      have HT := Lib.hid hT
      have HA : Hid (hbad kd pl = x) := Lib.hid (by have e := hA.out; unfold hmost at e; rw [if_neg hbm] at e; simp only [q] at e; rw [if_pos k0] at e; exact e)
      clear hA hy q hc
      clear hR hH hT
      have j0 : ¬ (kd : Int) = 0 := by omega
      go_wp2_with (first
       | (go_at_call 29; refine (HC.out _).mono ?_; rintro e w1 ⟨rfl, b1⟩; have R1 : Blk w1 w.heap.size 24 (h7 0 0 0 0 0 0 0) := Blk.below HR.out b1 (Blk.lt HR.out); have H1 : Blk w1 (w.heap.size + 1) 24 (h7 K W Hh 1 0 0 0) := Blk.below HH.out b1 (Blk.lt HH.out); have T1 : Turn [] w w1 := (HT.out).trans (Turn.of_below b1); have h0 : (w1).cell? ⟨w.heap.size + 1, 0, none⟩ = some (.int .i64 (K : Int)) := Blk.cell H1 0; have h1 : (w1).cell? ⟨w.heap.size + 1, 1, none⟩ = some (.int .i64 (W : Int)) := Blk.cell H1 1; have h2 : (w1).cell? ⟨w.heap.size + 1, 2, none⟩ = some (.int .i64 (Hh : Int)) := Blk.cell H1 2; have h3 : (w1).cell? ⟨w.heap.size + 1, 3, none⟩ = some (.int .i64 (1 : Int)) := Blk.cell H1 3; have h4 : (w1).cell? ⟨w.heap.size + 1, 4, none⟩ = some (.int .i64 (0 : Int)) := Blk.cell H1 4; have h5 : (w1).cell? ⟨w.heap.size + 1, 5, none⟩ = some (.int .i64 (0 : Int)) := Blk.cell H1 5; have h6 : (w1).cell? ⟨w.heap.size + 1, 6, none⟩ = some (.int .i64 (0 : Int)) := Blk.cell H1 6; have zh0 := Blk.frozen H1 0; have zh1 := Blk.frozen H1 1; have zh2 := Blk.frozen H1 2; have zh3 := Blk.frozen H1 3; have zh4 := Blk.frozen H1 4; have zh5 := Blk.frozen H1 5; have zh6 := Blk.frozen H1 6; have lh := Blk.lt H1)
       | (go_at_call 28; refine (rbad_any (kd) (pl) _).mono ?_; rintro e w2 ⟨rfl, b2⟩; have R2 : Blk w2 w.heap.size 24 (h7 0 0 0 0 0 0 0) := Blk.below (Blk.alloc R1 _) b2 (Blk.lt (Blk.alloc R1 _)); have T2 : Turn [] w w2 := (T1.alloc _).trans (Turn.of_below b2); have r0 : (w2).cell? ⟨w.heap.size, 0, none⟩ = some (.int .i64 (0 : Int)) := Blk.cell R2 0; have r1 : (w2).cell? ⟨w.heap.size, 1, none⟩ = some (.int .i64 (0 : Int)) := Blk.cell R2 1; have r2 : (w2).cell? ⟨w.heap.size, 2, none⟩ = some (.int .i64 (0 : Int)) := Blk.cell R2 2; have r3 : (w2).cell? ⟨w.heap.size, 3, none⟩ = some (.int .i64 (0 : Int)) := Blk.cell R2 3; have r4 : (w2).cell? ⟨w.heap.size, 4, none⟩ = some (.int .i64 (0 : Int)) := Blk.cell R2 4; have r5 : (w2).cell? ⟨w.heap.size, 5, none⟩ = some (.int .i64 (0 : Int)) := Blk.cell R2 5; have r6 : (w2).cell? ⟨w.heap.size, 6, none⟩ = some (.int .i64 (0 : Int)) := Blk.cell R2 6; have zr0 := Blk.frozen R2 0; have zr1 := Blk.frozen R2 1; have zr2 := Blk.frozen R2 2; have zr3 := Blk.frozen R2 3; have zr4 := Blk.frozen R2 4; have zr5 := Blk.frozen R2 5; have zr6 := Blk.frozen R2 6; have lr := Blk.lt R2))
      have fz : Blk (st7 w2 w.heap.size (0 : Int) (0 : Int) (0 : Int) (0 : Int) (0 : Int) (kd : Int) (pl : Int)) w.heap.size 24 (h7 (0 : Int) (0 : Int) (0 : Int) (0 : Int) (0 : Int) (kd : Int) (pl : Int)) := Blk.st7 R2 (0 : Int) (0 : Int) (0 : Int) (0 : Int) (0 : Int) (kd : Int) (pl : Int)
      have tz : Turn [] w (st7 w2 w.heap.size (0 : Int) (0 : Int) (0 : Int) (0 : Int) (0 : Int) (kd : Int) (pl : Int)) := Turn.st7 T2 (0 : Int) (0 : Int) (0 : Int) (0 : Int) (0 : Int) (kd : Int) (pl : Int) (Nat.le_refl _)
      change bodyPost _ _ _ _ _ ((st7 w2 w.heap.size (0 : Int) (0 : Int) (0 : Int) (0 : Int) (0 : Int) (kd : Int) (pl : Int)))
      generalize (st7 w2 w.heap.size (0 : Int) (0 : Int) (0 : Int) (0 : Int) (0 : Int) (kd : Int) (pl : Int)) = we at fz tz ⊢
      have q0 : we.cell? ⟨w.heap.size, 0, none⟩ = some (.int .i64 (0 : Int)) := Blk.cell fz 0
      have q1 : we.cell? ⟨w.heap.size, 1, none⟩ = some (.int .i64 (0 : Int)) := Blk.cell fz 1
      have q2 : we.cell? ⟨w.heap.size, 2, none⟩ = some (.int .i64 (0 : Int)) := Blk.cell fz 2
      have q3 : we.cell? ⟨w.heap.size, 3, none⟩ = some (.int .i64 (0 : Int)) := Blk.cell fz 3
      have q4 : we.cell? ⟨w.heap.size, 4, none⟩ = some (.int .i64 (0 : Int)) := Blk.cell fz 4
      have q5 : we.cell? ⟨w.heap.size, 5, none⟩ = some (.int .i64 (kd : Int)) := Blk.cell fz 5
      have q6 : we.cell? ⟨w.heap.size, 6, none⟩ = some (.int .i64 (pl : Int)) := Blk.cell fz 6
      exact bodyPost_ret (v := .agg #[.int .i64 (0 : Int), .int .i64 (0 : Int), .int .i64 (0 : Int), .int .i64 (0 : Int), .int .i64 (0 : Int), .int .i64 (kd : Int), .int .i64 (pl : Int)]) (by simp [results, Tryz.results9, go_sem, q0, q1, q2, q3, q4, q5, q6]) rfl ⟨by have e := HA.out; rw [← e]; rfl, tz.nilBelow⟩
     ·-- zero
      have hc := fun w => refNumber_any s a w ha hs
      rw [hy] at hc
      have HC : Hid (∀ w : World, Calls Tryz.prog 29 #[.string s, .int .i64 (a : Int)] w fun e w' => e = .returned (.agg #[.int .i64 (0 : Int), .int .i64 (f : Int), .int .i64 (nn : Int), .int .i64 (0 : Int), .int .i64 (0 : Int)]) ∧ Below w.heap.size w w') := Lib.hid hc
      have HR := Lib.hid hR
      have HH := Lib.hid hH
      have HT := Lib.hid hT
      have HA : Hid (hbad 2 f = x) := Lib.hid (by have e := hA.out; unfold hmost at e; rw [if_neg hbm] at e; simp only [q] at e; rw [if_pos (by decide)] at e; exact e)
      clear hA hy q hc
      clear hR hH hT
      go_wp2_with (first
       | (go_at_call 29; refine (HC.out _).mono ?_; rintro e w1 ⟨rfl, b1⟩; have R1 : Blk w1 w.heap.size 24 (h7 0 0 0 0 0 0 0) := Blk.below HR.out b1 (Blk.lt HR.out); have H1 : Blk w1 (w.heap.size + 1) 24 (h7 K W Hh 1 0 0 0) := Blk.below HH.out b1 (Blk.lt HH.out); have T1 : Turn [] w w1 := (HT.out).trans (Turn.of_below b1); have h0 : (w1).cell? ⟨w.heap.size + 1, 0, none⟩ = some (.int .i64 (K : Int)) := Blk.cell H1 0; have h1 : (w1).cell? ⟨w.heap.size + 1, 1, none⟩ = some (.int .i64 (W : Int)) := Blk.cell H1 1; have h2 : (w1).cell? ⟨w.heap.size + 1, 2, none⟩ = some (.int .i64 (Hh : Int)) := Blk.cell H1 2; have h3 : (w1).cell? ⟨w.heap.size + 1, 3, none⟩ = some (.int .i64 (1 : Int)) := Blk.cell H1 3; have h4 : (w1).cell? ⟨w.heap.size + 1, 4, none⟩ = some (.int .i64 (0 : Int)) := Blk.cell H1 4; have h5 : (w1).cell? ⟨w.heap.size + 1, 5, none⟩ = some (.int .i64 (0 : Int)) := Blk.cell H1 5; have h6 : (w1).cell? ⟨w.heap.size + 1, 6, none⟩ = some (.int .i64 (0 : Int)) := Blk.cell H1 6; have zh0 := Blk.frozen H1 0; have zh1 := Blk.frozen H1 1; have zh2 := Blk.frozen H1 2; have zh3 := Blk.frozen H1 3; have zh4 := Blk.frozen H1 4; have zh5 := Blk.frozen H1 5; have zh6 := Blk.frozen H1 6; have lh := Blk.lt H1)
       | (go_at_call 28; refine (rbad_any (2) (f) _).mono ?_; rintro e w2 ⟨rfl, b2⟩; have R2 : Blk w2 w.heap.size 24 (h7 0 0 0 0 0 0 0) := Blk.below (Blk.alloc R1 _) b2 (Blk.lt (Blk.alloc R1 _)); have T2 : Turn [] w w2 := (T1.alloc _).trans (Turn.of_below b2); have r0 : (w2).cell? ⟨w.heap.size, 0, none⟩ = some (.int .i64 (0 : Int)) := Blk.cell R2 0; have r1 : (w2).cell? ⟨w.heap.size, 1, none⟩ = some (.int .i64 (0 : Int)) := Blk.cell R2 1; have r2 : (w2).cell? ⟨w.heap.size, 2, none⟩ = some (.int .i64 (0 : Int)) := Blk.cell R2 2; have r3 : (w2).cell? ⟨w.heap.size, 3, none⟩ = some (.int .i64 (0 : Int)) := Blk.cell R2 3; have r4 : (w2).cell? ⟨w.heap.size, 4, none⟩ = some (.int .i64 (0 : Int)) := Blk.cell R2 4; have r5 : (w2).cell? ⟨w.heap.size, 5, none⟩ = some (.int .i64 (0 : Int)) := Blk.cell R2 5; have r6 : (w2).cell? ⟨w.heap.size, 6, none⟩ = some (.int .i64 (0 : Int)) := Blk.cell R2 6; have zr0 := Blk.frozen R2 0; have zr1 := Blk.frozen R2 1; have zr2 := Blk.frozen R2 2; have zr3 := Blk.frozen R2 3; have zr4 := Blk.frozen R2 4; have zr5 := Blk.frozen R2 5; have zr6 := Blk.frozen R2 6; have lr := Blk.lt R2))
      have fz : Blk (st7 w2 w.heap.size (0 : Int) (0 : Int) (0 : Int) (0 : Int) (0 : Int) (2 : Int) (f : Int)) w.heap.size 24 (h7 (0 : Int) (0 : Int) (0 : Int) (0 : Int) (0 : Int) (2 : Int) (f : Int)) := Blk.st7 R2 (0 : Int) (0 : Int) (0 : Int) (0 : Int) (0 : Int) (2 : Int) (f : Int)
      have tz : Turn [] w (st7 w2 w.heap.size (0 : Int) (0 : Int) (0 : Int) (0 : Int) (0 : Int) (2 : Int) (f : Int)) := Turn.st7 T2 (0 : Int) (0 : Int) (0 : Int) (0 : Int) (0 : Int) (2 : Int) (f : Int) (Nat.le_refl _)
      change bodyPost _ _ _ _ _ ((st7 w2 w.heap.size (0 : Int) (0 : Int) (0 : Int) (0 : Int) (0 : Int) (2 : Int) (f : Int)))
      generalize (st7 w2 w.heap.size (0 : Int) (0 : Int) (0 : Int) (0 : Int) (0 : Int) (2 : Int) (f : Int)) = we at fz tz ⊢
      have q0 : we.cell? ⟨w.heap.size, 0, none⟩ = some (.int .i64 (0 : Int)) := Blk.cell fz 0
      have q1 : we.cell? ⟨w.heap.size, 1, none⟩ = some (.int .i64 (0 : Int)) := Blk.cell fz 1
      have q2 : we.cell? ⟨w.heap.size, 2, none⟩ = some (.int .i64 (0 : Int)) := Blk.cell fz 2
      have q3 : we.cell? ⟨w.heap.size, 3, none⟩ = some (.int .i64 (0 : Int)) := Blk.cell fz 3
      have q4 : we.cell? ⟨w.heap.size, 4, none⟩ = some (.int .i64 (0 : Int)) := Blk.cell fz 4
      have q5 : we.cell? ⟨w.heap.size, 5, none⟩ = some (.int .i64 (2 : Int)) := Blk.cell fz 5
      have q6 : we.cell? ⟨w.heap.size, 6, none⟩ = some (.int .i64 (f : Int)) := Blk.cell fz 6
      exact bodyPost_ret (v := .agg #[.int .i64 (0 : Int), .int .i64 (0 : Int), .int .i64 (0 : Int), .int .i64 (0 : Int), .int .i64 (0 : Int), .int .i64 (2 : Int), .int .i64 (f : Int)]) (by simp [results, Tryz.results9, go_sem, q0, q1, q2, q3, q4, q5, q6]) rfl ⟨by have e := HA.out; rw [← e]; rfl, tz.nilBelow⟩
     ·-- above
      have hc := fun w => refNumber_any s a w ha hs
      rw [hy] at hc
      have HC : Hid (∀ w : World, Calls Tryz.prog 29 #[.string s, .int .i64 (a : Int)] w fun e w' => e = .returned (.agg #[.int .i64 (V : Int), .int .i64 (f : Int), .int .i64 (nn : Int), .int .i64 (0 : Int), .int .i64 (0 : Int)]) ∧ Below w.heap.size w w') := Lib.hid hc
      have HR := Lib.hid hR
      have HH := Lib.hid hH
      have HT := Lib.hid hT
      have HA : Hid (hbad 2 f = x) := Lib.hid (by have e := hA.out; unfold hmost at e; rw [if_neg hbm] at e; simp only [q] at e; rw [if_pos (by decide)] at e; exact e)
      clear hA hy q hc
      clear hR hH hT
      have j0 : ¬ (V : Int) = 0 := by omega
      have j1 : (65535 : Int) < (V : Int) := by omega
      go_wp2_with (first
       | (go_at_call 29; refine (HC.out _).mono ?_; rintro e w1 ⟨rfl, b1⟩; have R1 : Blk w1 w.heap.size 24 (h7 0 0 0 0 0 0 0) := Blk.below HR.out b1 (Blk.lt HR.out); have H1 : Blk w1 (w.heap.size + 1) 24 (h7 K W Hh 1 0 0 0) := Blk.below HH.out b1 (Blk.lt HH.out); have T1 : Turn [] w w1 := (HT.out).trans (Turn.of_below b1); have h0 : (w1).cell? ⟨w.heap.size + 1, 0, none⟩ = some (.int .i64 (K : Int)) := Blk.cell H1 0; have h1 : (w1).cell? ⟨w.heap.size + 1, 1, none⟩ = some (.int .i64 (W : Int)) := Blk.cell H1 1; have h2 : (w1).cell? ⟨w.heap.size + 1, 2, none⟩ = some (.int .i64 (Hh : Int)) := Blk.cell H1 2; have h3 : (w1).cell? ⟨w.heap.size + 1, 3, none⟩ = some (.int .i64 (1 : Int)) := Blk.cell H1 3; have h4 : (w1).cell? ⟨w.heap.size + 1, 4, none⟩ = some (.int .i64 (0 : Int)) := Blk.cell H1 4; have h5 : (w1).cell? ⟨w.heap.size + 1, 5, none⟩ = some (.int .i64 (0 : Int)) := Blk.cell H1 5; have h6 : (w1).cell? ⟨w.heap.size + 1, 6, none⟩ = some (.int .i64 (0 : Int)) := Blk.cell H1 6; have zh0 := Blk.frozen H1 0; have zh1 := Blk.frozen H1 1; have zh2 := Blk.frozen H1 2; have zh3 := Blk.frozen H1 3; have zh4 := Blk.frozen H1 4; have zh5 := Blk.frozen H1 5; have zh6 := Blk.frozen H1 6; have lh := Blk.lt H1)
       | (go_at_call 28; refine (rbad_any (2) (f) _).mono ?_; rintro e w2 ⟨rfl, b2⟩; have R2 : Blk w2 w.heap.size 24 (h7 0 0 0 0 0 0 0) := Blk.below (Blk.alloc R1 _) b2 (Blk.lt (Blk.alloc R1 _)); have T2 : Turn [] w w2 := (T1.alloc _).trans (Turn.of_below b2); have r0 : (w2).cell? ⟨w.heap.size, 0, none⟩ = some (.int .i64 (0 : Int)) := Blk.cell R2 0; have r1 : (w2).cell? ⟨w.heap.size, 1, none⟩ = some (.int .i64 (0 : Int)) := Blk.cell R2 1; have r2 : (w2).cell? ⟨w.heap.size, 2, none⟩ = some (.int .i64 (0 : Int)) := Blk.cell R2 2; have r3 : (w2).cell? ⟨w.heap.size, 3, none⟩ = some (.int .i64 (0 : Int)) := Blk.cell R2 3; have r4 : (w2).cell? ⟨w.heap.size, 4, none⟩ = some (.int .i64 (0 : Int)) := Blk.cell R2 4; have r5 : (w2).cell? ⟨w.heap.size, 5, none⟩ = some (.int .i64 (0 : Int)) := Blk.cell R2 5; have r6 : (w2).cell? ⟨w.heap.size, 6, none⟩ = some (.int .i64 (0 : Int)) := Blk.cell R2 6; have zr0 := Blk.frozen R2 0; have zr1 := Blk.frozen R2 1; have zr2 := Blk.frozen R2 2; have zr3 := Blk.frozen R2 3; have zr4 := Blk.frozen R2 4; have zr5 := Blk.frozen R2 5; have zr6 := Blk.frozen R2 6; have lr := Blk.lt R2))
      have fz : Blk (st7 w2 w.heap.size (0 : Int) (0 : Int) (0 : Int) (0 : Int) (0 : Int) (2 : Int) (f : Int)) w.heap.size 24 (h7 (0 : Int) (0 : Int) (0 : Int) (0 : Int) (0 : Int) (2 : Int) (f : Int)) := Blk.st7 R2 (0 : Int) (0 : Int) (0 : Int) (0 : Int) (0 : Int) (2 : Int) (f : Int)
      have tz : Turn [] w (st7 w2 w.heap.size (0 : Int) (0 : Int) (0 : Int) (0 : Int) (0 : Int) (2 : Int) (f : Int)) := Turn.st7 T2 (0 : Int) (0 : Int) (0 : Int) (0 : Int) (0 : Int) (2 : Int) (f : Int) (Nat.le_refl _)
      change bodyPost _ _ _ _ _ ((st7 w2 w.heap.size (0 : Int) (0 : Int) (0 : Int) (0 : Int) (0 : Int) (2 : Int) (f : Int)))
      generalize (st7 w2 w.heap.size (0 : Int) (0 : Int) (0 : Int) (0 : Int) (0 : Int) (2 : Int) (f : Int)) = we at fz tz ⊢
      have q0 : we.cell? ⟨w.heap.size, 0, none⟩ = some (.int .i64 (0 : Int)) := Blk.cell fz 0
      have q1 : we.cell? ⟨w.heap.size, 1, none⟩ = some (.int .i64 (0 : Int)) := Blk.cell fz 1
      have q2 : we.cell? ⟨w.heap.size, 2, none⟩ = some (.int .i64 (0 : Int)) := Blk.cell fz 2
      have q3 : we.cell? ⟨w.heap.size, 3, none⟩ = some (.int .i64 (0 : Int)) := Blk.cell fz 3
      have q4 : we.cell? ⟨w.heap.size, 4, none⟩ = some (.int .i64 (0 : Int)) := Blk.cell fz 4
      have q5 : we.cell? ⟨w.heap.size, 5, none⟩ = some (.int .i64 (2 : Int)) := Blk.cell fz 5
      have q6 : we.cell? ⟨w.heap.size, 6, none⟩ = some (.int .i64 (f : Int)) := Blk.cell fz 6
      exact bodyPost_ret (v := .agg #[.int .i64 (0 : Int), .int .i64 (0 : Int), .int .i64 (0 : Int), .int .i64 (0 : Int), .int .i64 (0 : Int), .int .i64 (2 : Int), .int .i64 (f : Int)]) (by simp [results, Tryz.results9, go_sem, q0, q1, q2, q3, q4, q5, q6]) rfl ⟨by have e := HA.out; rw [← e]; rfl, tz.nilBelow⟩
     ·-- ok
      have hc := fun w => refNumber_any s a w ha hs
      rw [hy] at hc
      have HC : Hid (∀ w : World, Calls Tryz.prog 29 #[.string s, .int .i64 (a : Int)] w fun e w' => e = .returned (.agg #[.int .i64 (V : Int), .int .i64 (f : Int), .int .i64 (nn : Int), .int .i64 (0 : Int), .int .i64 (0 : Int)]) ∧ Below w.heap.size w w') := Lib.hid hc
      have HR := Lib.hid hR
      have HH := Lib.hid hH
      have HT := Lib.hid hT
      have HA : Hid (hfin (nats s) K W Hh V nn = x) := Lib.hid (by have e := hA.out; unfold hmost at e; rw [if_neg hbm] at e; simp only [q] at e; rw [if_neg (by simp)] at e; exact e)
      clear hA hy q hc
      clear hR hH hT
      have j0 : ¬ (V : Int) = 0 := by omega
      have j1 : ¬ (65535 : Int) < (V : Int) := by omega
      have j2 : decide ((65535 : Int) < (V : Int)) = false := decide_eq_false (by omega)
      have j3 : decide (65535 < V) = false := decide_eq_false (by omega)
      go_wp2_with (first
       | (go_at_call 29; refine (HC.out _).mono ?_; rintro e w1 ⟨rfl, b1⟩; have R1 : Blk w1 w.heap.size 24 (h7 0 0 0 0 0 0 0) := Blk.below HR.out b1 (Blk.lt HR.out); have H1 : Blk w1 (w.heap.size + 1) 24 (h7 K W Hh 1 0 0 0) := Blk.below HH.out b1 (Blk.lt HH.out); have T1 : Turn [] w w1 := (HT.out).trans (Turn.of_below b1); have h0 : (w1).cell? ⟨w.heap.size + 1, 0, none⟩ = some (.int .i64 (K : Int)) := Blk.cell H1 0; have h1 : (w1).cell? ⟨w.heap.size + 1, 1, none⟩ = some (.int .i64 (W : Int)) := Blk.cell H1 1; have h2 : (w1).cell? ⟨w.heap.size + 1, 2, none⟩ = some (.int .i64 (Hh : Int)) := Blk.cell H1 2; have h3 : (w1).cell? ⟨w.heap.size + 1, 3, none⟩ = some (.int .i64 (1 : Int)) := Blk.cell H1 3; have h4 : (w1).cell? ⟨w.heap.size + 1, 4, none⟩ = some (.int .i64 (0 : Int)) := Blk.cell H1 4; have h5 : (w1).cell? ⟨w.heap.size + 1, 5, none⟩ = some (.int .i64 (0 : Int)) := Blk.cell H1 5; have h6 : (w1).cell? ⟨w.heap.size + 1, 6, none⟩ = some (.int .i64 (0 : Int)) := Blk.cell H1 6; have zh0 := Blk.frozen H1 0; have zh1 := Blk.frozen H1 1; have zh2 := Blk.frozen H1 2; have zh3 := Blk.frozen H1 3; have zh4 := Blk.frozen H1 4; have zh5 := Blk.frozen H1 5; have zh6 := Blk.frozen H1 6; have lh := Blk.lt H1))
      have R2 : Blk ((w1.setCell ⟨w.heap.size + 1, 3, none⟩ (.int .i64 (V : Int))).alloc (.cells #[.int .i64 (V : Int), .int .i64 (f : Int), .int .i64 (nn : Int), .int .i64 (0 : Int), .int .i64 (0 : Int)] 54)) w.heap.size 24 (h7 0 0 0 0 0 0 0) := ((R1).far (p := ⟨w.heap.size + 1, 3, none⟩) (show w.heap.size ≠ w.heap.size + 1 by omega) _).alloc _
      have H2 : Blk ((w1.setCell ⟨w.heap.size + 1, 3, none⟩ (.int .i64 (V : Int))).alloc (.cells #[.int .i64 (V : Int), .int .i64 (f : Int), .int .i64 (nn : Int), .int .i64 (0 : Int), .int .i64 (0 : Int)] 54)) (w.heap.size + 1) 24 (h7 K W Hh V 0 0 0) := ((H1.set_ 3 _).eq_ (by simp [h7])).alloc _
      have T2 : Turn [] w ((w1.setCell ⟨w.heap.size + 1, 3, none⟩ (.int .i64 (V : Int))).alloc (.cells #[.int .i64 (V : Int), .int .i64 (f : Int), .int .i64 (nn : Int), .int .i64 (0 : Int), .int .i64 (0 : Int)] 54)) := (T1.set_ 3 _ (.inr (by omega))).alloc _
      go_roundg 0
      case measure => decide
      case rel => exact ⟨nn, W, Hh, V, by decide, rfl, by omega, by omega, by omega, by omega, R2, H2, T2, .inr (.inr (.inr ⟨rfl, rfl, HA⟩))⟩
   ·have HR := Lib.hid hR
    have HH := Lib.hid hH
    have HT := Lib.hid hT
    by_cases h4 : 4 ≤ K
    ·have i6 : (4 : Int) ≤ (K : Int) := by omega
     by_cases h5 : s.size ≤ a
     ·have i7 : (s.size : Int) ≤ (a : Int) := by omega
      have HA : Hid (hbad 1 s.size = x) := Lib.hid (by have e := hA.out; unfold hfin at e; rw [if_pos h4, hlen, if_pos h5] at e; exact e)
      clear hA hR hH hT
      go_wp2_with (first
       | (go_at_call 28; refine (rbad_any (1) (s.size) _).mono ?_; rintro e w2 ⟨rfl, b2⟩; have R2 : Blk w2 w.heap.size 24 (h7 0 0 0 0 0 0 0) := Blk.below (HR.out) b2 (Blk.lt (HR.out)); have T2 : Turn [] w w2 := (HT.out).trans (Turn.of_below b2); have r0 : (w2).cell? ⟨w.heap.size, 0, none⟩ = some (.int .i64 (0 : Int)) := Blk.cell R2 0; have r1 : (w2).cell? ⟨w.heap.size, 1, none⟩ = some (.int .i64 (0 : Int)) := Blk.cell R2 1; have r2 : (w2).cell? ⟨w.heap.size, 2, none⟩ = some (.int .i64 (0 : Int)) := Blk.cell R2 2; have r3 : (w2).cell? ⟨w.heap.size, 3, none⟩ = some (.int .i64 (0 : Int)) := Blk.cell R2 3; have r4 : (w2).cell? ⟨w.heap.size, 4, none⟩ = some (.int .i64 (0 : Int)) := Blk.cell R2 4; have r5 : (w2).cell? ⟨w.heap.size, 5, none⟩ = some (.int .i64 (0 : Int)) := Blk.cell R2 5; have r6 : (w2).cell? ⟨w.heap.size, 6, none⟩ = some (.int .i64 (0 : Int)) := Blk.cell R2 6; have zr0 := Blk.frozen R2 0; have zr1 := Blk.frozen R2 1; have zr2 := Blk.frozen R2 2; have zr3 := Blk.frozen R2 3; have zr4 := Blk.frozen R2 4; have zr5 := Blk.frozen R2 5; have zr6 := Blk.frozen R2 6; have lr := Blk.lt R2))
      have fz : Blk (st7 w2 w.heap.size (0 : Int) (0 : Int) (0 : Int) (0 : Int) (0 : Int) (1 : Int) (s.size : Int)) w.heap.size 24 (h7 (0 : Int) (0 : Int) (0 : Int) (0 : Int) (0 : Int) (1 : Int) (s.size : Int)) := Blk.st7 R2 (0 : Int) (0 : Int) (0 : Int) (0 : Int) (0 : Int) (1 : Int) (s.size : Int)
      have tz : Turn [] w (st7 w2 w.heap.size (0 : Int) (0 : Int) (0 : Int) (0 : Int) (0 : Int) (1 : Int) (s.size : Int)) := Turn.st7 T2 (0 : Int) (0 : Int) (0 : Int) (0 : Int) (0 : Int) (1 : Int) (s.size : Int) (Nat.le_refl _)
      change bodyPost _ _ _ _ _ ((st7 w2 w.heap.size (0 : Int) (0 : Int) (0 : Int) (0 : Int) (0 : Int) (1 : Int) (s.size : Int)))
      generalize (st7 w2 w.heap.size (0 : Int) (0 : Int) (0 : Int) (0 : Int) (0 : Int) (1 : Int) (s.size : Int)) = we at fz tz ⊢
      have q0 : we.cell? ⟨w.heap.size, 0, none⟩ = some (.int .i64 (0 : Int)) := Blk.cell fz 0
      have q1 : we.cell? ⟨w.heap.size, 1, none⟩ = some (.int .i64 (0 : Int)) := Blk.cell fz 1
      have q2 : we.cell? ⟨w.heap.size, 2, none⟩ = some (.int .i64 (0 : Int)) := Blk.cell fz 2
      have q3 : we.cell? ⟨w.heap.size, 3, none⟩ = some (.int .i64 (0 : Int)) := Blk.cell fz 3
      have q4 : we.cell? ⟨w.heap.size, 4, none⟩ = some (.int .i64 (0 : Int)) := Blk.cell fz 4
      have q5 : we.cell? ⟨w.heap.size, 5, none⟩ = some (.int .i64 (1 : Int)) := Blk.cell fz 5
      have q6 : we.cell? ⟨w.heap.size, 6, none⟩ = some (.int .i64 (s.size : Int)) := Blk.cell fz 6
      exact bodyPost_ret (v := .agg #[.int .i64 (0 : Int), .int .i64 (0 : Int), .int .i64 (0 : Int), .int .i64 (0 : Int), .int .i64 (0 : Int), .int .i64 (1 : Int), .int .i64 (s.size : Int)]) (by simp [results, Tryz.results9, go_sem, q0, q1, q2, q3, q4, q5, q6]) rfl ⟨by have e := HA.out; rw [← e]; rfl, tz.nilBelow⟩
     ·have i7 : ¬ (s.size : Int) ≤ (a : Int) := by omega
      have hqa := bat_eq (show a < s.size by omega)
      have HQ := Lib.hid hqa
      by_cases h6 : isBlank (bat s a) = true
      ·have HA : Hid ((⟨K, W, Hh, M, a + 1, 0, 0⟩ : HeadR) = x) := Lib.hid (by have e := hA.out; unfold hfin at e; rw [if_pos h4, hlen, if_neg h5, show (nats s).getD a 0 = bat s a from rfl, if_pos h6] at e; exact e)
       clear hA hR hH hT hqa
       have H6 := Lib.hid h6
       clear h6
       have h0 : (wr).cell? ⟨w.heap.size + 1, 0, none⟩ = some (.int .i64 (K : Int)) := Blk.cell HH.out 0
       have h1 : (wr).cell? ⟨w.heap.size + 1, 1, none⟩ = some (.int .i64 (W : Int)) := Blk.cell HH.out 1
       have h2 : (wr).cell? ⟨w.heap.size + 1, 2, none⟩ = some (.int .i64 (Hh : Int)) := Blk.cell HH.out 2
       have h3 : (wr).cell? ⟨w.heap.size + 1, 3, none⟩ = some (.int .i64 (M : Int)) := Blk.cell HH.out 3
       have h4 : (wr).cell? ⟨w.heap.size + 1, 4, none⟩ = some (.int .i64 (0 : Int)) := Blk.cell HH.out 4
       have h5 : (wr).cell? ⟨w.heap.size + 1, 5, none⟩ = some (.int .i64 (0 : Int)) := Blk.cell HH.out 5
       have h6 : (wr).cell? ⟨w.heap.size + 1, 6, none⟩ = some (.int .i64 (0 : Int)) := Blk.cell HH.out 6
       have zh0 := Blk.frozen HH.out 0
       have zh1 := Blk.frozen HH.out 1
       have zh2 := Blk.frozen HH.out 2
       have zh3 := Blk.frozen HH.out 3
       have zh4 := Blk.frozen HH.out 4
       have zh5 := Blk.frozen HH.out 5
       have zh6 := Blk.frozen HH.out 6
       have lh := Blk.lt HH.out
       have r0 : (wr).cell? ⟨w.heap.size, 0, none⟩ = some (.int .i64 (0 : Int)) := Blk.cell HR.out 0
       have r1 : (wr).cell? ⟨w.heap.size, 1, none⟩ = some (.int .i64 (0 : Int)) := Blk.cell HR.out 1
       have r2 : (wr).cell? ⟨w.heap.size, 2, none⟩ = some (.int .i64 (0 : Int)) := Blk.cell HR.out 2
       have r3 : (wr).cell? ⟨w.heap.size, 3, none⟩ = some (.int .i64 (0 : Int)) := Blk.cell HR.out 3
       have r4 : (wr).cell? ⟨w.heap.size, 4, none⟩ = some (.int .i64 (0 : Int)) := Blk.cell HR.out 4
       have r5 : (wr).cell? ⟨w.heap.size, 5, none⟩ = some (.int .i64 (0 : Int)) := Blk.cell HR.out 5
       have r6 : (wr).cell? ⟨w.heap.size, 6, none⟩ = some (.int .i64 (0 : Int)) := Blk.cell HR.out 6
       have zr0 := Blk.frozen HR.out 0
       have zr1 := Blk.frozen HR.out 1
       have zr2 := Blk.frozen HR.out 2
       have zr3 := Blk.frozen HR.out 3
       have zr4 := Blk.frozen HR.out 4
       have zr5 := Blk.frozen HR.out 5
       have zr6 := Blk.frozen HR.out 6
       have lr := Blk.lt HR.out
       go_wp2_with (first
        | (go_at_call 30; rw [← HQ.out]; refine (rblank_any (bat s a) _).mono ?_; rintro e w9 ⟨rfl, rfl⟩; rw [H6.out]))
       have R2 : Blk (World.setCell wr ⟨w.heap.size + 1, 4, none⟩ (.int .i64 ((a + 1 : Nat) : Int))) w.heap.size 24 (h7 0 0 0 0 0 0 0) := (HR.out).far (p := ⟨w.heap.size + 1, 4, none⟩) (show w.heap.size ≠ w.heap.size + 1 by omega) _
       have T2 : Turn [] w (World.setCell wr ⟨w.heap.size + 1, 4, none⟩ (.int .i64 ((a + 1 : Nat) : Int))) := (HT.out).set_ 4 _ (.inr (by omega))
       have fz : Blk (st7 (World.setCell wr ⟨w.heap.size + 1, 4, none⟩ (.int .i64 ((a + 1 : Nat) : Int))) w.heap.size (K : Int) (W : Int) (Hh : Int) (M : Int) ((a + 1 : Nat) : Int) (0 : Int) (0 : Int)) w.heap.size 24 (h7 (K : Int) (W : Int) (Hh : Int) (M : Int) ((a + 1 : Nat) : Int) (0 : Int) (0 : Int)) := Blk.st7 R2 (K : Int) (W : Int) (Hh : Int) (M : Int) ((a + 1 : Nat) : Int) (0 : Int) (0 : Int)
       have tz : Turn [] w (st7 (World.setCell wr ⟨w.heap.size + 1, 4, none⟩ (.int .i64 ((a + 1 : Nat) : Int))) w.heap.size (K : Int) (W : Int) (Hh : Int) (M : Int) ((a + 1 : Nat) : Int) (0 : Int) (0 : Int)) := Turn.st7 T2 (K : Int) (W : Int) (Hh : Int) (M : Int) ((a + 1 : Nat) : Int) (0 : Int) (0 : Int) (Nat.le_refl _)
       change bodyPost _ _ _ _ _ ((st7 (World.setCell wr ⟨w.heap.size + 1, 4, none⟩ (.int .i64 ((a + 1 : Nat) : Int))) w.heap.size (K : Int) (W : Int) (Hh : Int) (M : Int) ((a + 1 : Nat) : Int) (0 : Int) (0 : Int)))
       generalize (st7 (World.setCell wr ⟨w.heap.size + 1, 4, none⟩ (.int .i64 ((a + 1 : Nat) : Int))) w.heap.size (K : Int) (W : Int) (Hh : Int) (M : Int) ((a + 1 : Nat) : Int) (0 : Int) (0 : Int)) = we at fz tz ⊢
       have q0 : we.cell? ⟨w.heap.size, 0, none⟩ = some (.int .i64 (K : Int)) := Blk.cell fz 0
       have q1 : we.cell? ⟨w.heap.size, 1, none⟩ = some (.int .i64 (W : Int)) := Blk.cell fz 1
       have q2 : we.cell? ⟨w.heap.size, 2, none⟩ = some (.int .i64 (Hh : Int)) := Blk.cell fz 2
       have q3 : we.cell? ⟨w.heap.size, 3, none⟩ = some (.int .i64 (M : Int)) := Blk.cell fz 3
       have q4 : we.cell? ⟨w.heap.size, 4, none⟩ = some (.int .i64 ((a + 1 : Nat) : Int)) := Blk.cell fz 4
       have q5 : we.cell? ⟨w.heap.size, 5, none⟩ = some (.int .i64 (0 : Int)) := Blk.cell fz 5
       have q6 : we.cell? ⟨w.heap.size, 6, none⟩ = some (.int .i64 (0 : Int)) := Blk.cell fz 6
       exact bodyPost_ret (v := .agg #[.int .i64 (K : Int), .int .i64 (W : Int), .int .i64 (Hh : Int), .int .i64 (M : Int), .int .i64 ((a + 1 : Nat) : Int), .int .i64 (0 : Int), .int .i64 (0 : Int)]) (by simp [results, Tryz.results9, go_sem, q0, q1, q2, q3, q4, q5, q6]) rfl ⟨by have e := HA.out; rw [← e]; rfl, tz.nilBelow⟩
      ·have HA : Hid (hbad 2 a = x) := Lib.hid (by have e := hA.out; unfold hfin at e; rw [if_pos h4, hlen, if_neg h5, show (nats s).getD a 0 = bat s a from rfl, if_neg h6] at e; exact e)
       have H6 : Hid (isBlank (bat s a) = false) := Lib.hid (by cases hq : isBlank (bat s a) with | false => rfl | true => exact absurd hq h6)
       clear hA hR hH hT hqa h6
       go_wp2_with (first
        | (go_at_call 30; rw [← HQ.out]; refine (rblank_any (bat s a) _).mono ?_; rintro e w9 ⟨rfl, rfl⟩; rw [H6.out])
        | (go_at_call 28; refine (rbad_any (2) (a) _).mono ?_; rintro e w2 ⟨rfl, b2⟩; have R2 : Blk w2 w.heap.size 24 (h7 0 0 0 0 0 0 0) := Blk.below (HR.out) b2 (Blk.lt (HR.out)); have T2 : Turn [] w w2 := (HT.out).trans (Turn.of_below b2); have r0 : (w2).cell? ⟨w.heap.size, 0, none⟩ = some (.int .i64 (0 : Int)) := Blk.cell R2 0; have r1 : (w2).cell? ⟨w.heap.size, 1, none⟩ = some (.int .i64 (0 : Int)) := Blk.cell R2 1; have r2 : (w2).cell? ⟨w.heap.size, 2, none⟩ = some (.int .i64 (0 : Int)) := Blk.cell R2 2; have r3 : (w2).cell? ⟨w.heap.size, 3, none⟩ = some (.int .i64 (0 : Int)) := Blk.cell R2 3; have r4 : (w2).cell? ⟨w.heap.size, 4, none⟩ = some (.int .i64 (0 : Int)) := Blk.cell R2 4; have r5 : (w2).cell? ⟨w.heap.size, 5, none⟩ = some (.int .i64 (0 : Int)) := Blk.cell R2 5; have r6 : (w2).cell? ⟨w.heap.size, 6, none⟩ = some (.int .i64 (0 : Int)) := Blk.cell R2 6; have zr0 := Blk.frozen R2 0; have zr1 := Blk.frozen R2 1; have zr2 := Blk.frozen R2 2; have zr3 := Blk.frozen R2 3; have zr4 := Blk.frozen R2 4; have zr5 := Blk.frozen R2 5; have zr6 := Blk.frozen R2 6; have lr := Blk.lt R2))
       have fz : Blk (st7 w2 w.heap.size (0 : Int) (0 : Int) (0 : Int) (0 : Int) (0 : Int) (2 : Int) (a : Int)) w.heap.size 24 (h7 (0 : Int) (0 : Int) (0 : Int) (0 : Int) (0 : Int) (2 : Int) (a : Int)) := Blk.st7 R2 (0 : Int) (0 : Int) (0 : Int) (0 : Int) (0 : Int) (2 : Int) (a : Int)
       have tz : Turn [] w (st7 w2 w.heap.size (0 : Int) (0 : Int) (0 : Int) (0 : Int) (0 : Int) (2 : Int) (a : Int)) := Turn.st7 T2 (0 : Int) (0 : Int) (0 : Int) (0 : Int) (0 : Int) (2 : Int) (a : Int) (Nat.le_refl _)
       change bodyPost _ _ _ _ _ ((st7 w2 w.heap.size (0 : Int) (0 : Int) (0 : Int) (0 : Int) (0 : Int) (2 : Int) (a : Int)))
       generalize (st7 w2 w.heap.size (0 : Int) (0 : Int) (0 : Int) (0 : Int) (0 : Int) (2 : Int) (a : Int)) = we at fz tz ⊢
       have q0 : we.cell? ⟨w.heap.size, 0, none⟩ = some (.int .i64 (0 : Int)) := Blk.cell fz 0
       have q1 : we.cell? ⟨w.heap.size, 1, none⟩ = some (.int .i64 (0 : Int)) := Blk.cell fz 1
       have q2 : we.cell? ⟨w.heap.size, 2, none⟩ = some (.int .i64 (0 : Int)) := Blk.cell fz 2
       have q3 : we.cell? ⟨w.heap.size, 3, none⟩ = some (.int .i64 (0 : Int)) := Blk.cell fz 3
       have q4 : we.cell? ⟨w.heap.size, 4, none⟩ = some (.int .i64 (0 : Int)) := Blk.cell fz 4
       have q5 : we.cell? ⟨w.heap.size, 5, none⟩ = some (.int .i64 (2 : Int)) := Blk.cell fz 5
       have q6 : we.cell? ⟨w.heap.size, 6, none⟩ = some (.int .i64 (a : Int)) := Blk.cell fz 6
       exact bodyPost_ret (v := .agg #[.int .i64 (0 : Int), .int .i64 (0 : Int), .int .i64 (0 : Int), .int .i64 (0 : Int), .int .i64 (0 : Int), .int .i64 (2 : Int), .int .i64 (a : Int)]) (by simp [results, Tryz.results9, go_sem, q0, q1, q2, q3, q4, q5, q6]) rfl ⟨by have e := HA.out; rw [← e]; rfl, tz.nilBelow⟩
    ·have i6 : ¬ (4 : Int) ≤ (K : Int) := by omega
     have HA : Hid ((⟨K, W, Hh, M, a, 0, 0⟩ : HeadR) = x) := Lib.hid (by have e := hA.out; unfold hfin at e; rw [if_neg h4] at e; exact e)
     clear hA hR hH hT
     have h0 : (wr).cell? ⟨w.heap.size + 1, 0, none⟩ = some (.int .i64 (K : Int)) := Blk.cell HH.out 0
     have h1 : (wr).cell? ⟨w.heap.size + 1, 1, none⟩ = some (.int .i64 (W : Int)) := Blk.cell HH.out 1
     have h2 : (wr).cell? ⟨w.heap.size + 1, 2, none⟩ = some (.int .i64 (Hh : Int)) := Blk.cell HH.out 2
     have h3 : (wr).cell? ⟨w.heap.size + 1, 3, none⟩ = some (.int .i64 (M : Int)) := Blk.cell HH.out 3
     have h4 : (wr).cell? ⟨w.heap.size + 1, 4, none⟩ = some (.int .i64 (0 : Int)) := Blk.cell HH.out 4
     have h5 : (wr).cell? ⟨w.heap.size + 1, 5, none⟩ = some (.int .i64 (0 : Int)) := Blk.cell HH.out 5
     have h6 : (wr).cell? ⟨w.heap.size + 1, 6, none⟩ = some (.int .i64 (0 : Int)) := Blk.cell HH.out 6
     have zh0 := Blk.frozen HH.out 0
     have zh1 := Blk.frozen HH.out 1
     have zh2 := Blk.frozen HH.out 2
     have zh3 := Blk.frozen HH.out 3
     have zh4 := Blk.frozen HH.out 4
     have zh5 := Blk.frozen HH.out 5
     have zh6 := Blk.frozen HH.out 6
     have lh := Blk.lt HH.out
     have r0 : (wr).cell? ⟨w.heap.size, 0, none⟩ = some (.int .i64 (0 : Int)) := Blk.cell HR.out 0
     have r1 : (wr).cell? ⟨w.heap.size, 1, none⟩ = some (.int .i64 (0 : Int)) := Blk.cell HR.out 1
     have r2 : (wr).cell? ⟨w.heap.size, 2, none⟩ = some (.int .i64 (0 : Int)) := Blk.cell HR.out 2
     have r3 : (wr).cell? ⟨w.heap.size, 3, none⟩ = some (.int .i64 (0 : Int)) := Blk.cell HR.out 3
     have r4 : (wr).cell? ⟨w.heap.size, 4, none⟩ = some (.int .i64 (0 : Int)) := Blk.cell HR.out 4
     have r5 : (wr).cell? ⟨w.heap.size, 5, none⟩ = some (.int .i64 (0 : Int)) := Blk.cell HR.out 5
     have r6 : (wr).cell? ⟨w.heap.size, 6, none⟩ = some (.int .i64 (0 : Int)) := Blk.cell HR.out 6
     have zr0 := Blk.frozen HR.out 0
     have zr1 := Blk.frozen HR.out 1
     have zr2 := Blk.frozen HR.out 2
     have zr3 := Blk.frozen HR.out 3
     have zr4 := Blk.frozen HR.out 4
     have zr5 := Blk.frozen HR.out 5
     have zr6 := Blk.frozen HR.out 6
     have lr := Blk.lt HR.out
     go_wp2_with fail
     have R2 : Blk (World.setCell wr ⟨w.heap.size + 1, 4, none⟩ (.int .i64 ((a : Nat) : Int))) w.heap.size 24 (h7 0 0 0 0 0 0 0) := (HR.out).far (p := ⟨w.heap.size + 1, 4, none⟩) (show w.heap.size ≠ w.heap.size + 1 by omega) _
     have T2 : Turn [] w (World.setCell wr ⟨w.heap.size + 1, 4, none⟩ (.int .i64 ((a : Nat) : Int))) := (HT.out).set_ 4 _ (.inr (by omega))
     have fz : Blk (st7 (World.setCell wr ⟨w.heap.size + 1, 4, none⟩ (.int .i64 ((a : Nat) : Int))) w.heap.size (K : Int) (W : Int) (Hh : Int) (M : Int) ((a : Nat) : Int) (0 : Int) (0 : Int)) w.heap.size 24 (h7 (K : Int) (W : Int) (Hh : Int) (M : Int) ((a : Nat) : Int) (0 : Int) (0 : Int)) := Blk.st7 R2 (K : Int) (W : Int) (Hh : Int) (M : Int) ((a : Nat) : Int) (0 : Int) (0 : Int)
     have tz : Turn [] w (st7 (World.setCell wr ⟨w.heap.size + 1, 4, none⟩ (.int .i64 ((a : Nat) : Int))) w.heap.size (K : Int) (W : Int) (Hh : Int) (M : Int) ((a : Nat) : Int) (0 : Int) (0 : Int)) := Turn.st7 T2 (K : Int) (W : Int) (Hh : Int) (M : Int) ((a : Nat) : Int) (0 : Int) (0 : Int) (Nat.le_refl _)
     change bodyPost _ _ _ _ _ ((st7 (World.setCell wr ⟨w.heap.size + 1, 4, none⟩ (.int .i64 ((a : Nat) : Int))) w.heap.size (K : Int) (W : Int) (Hh : Int) (M : Int) ((a : Nat) : Int) (0 : Int) (0 : Int)))
     generalize (st7 (World.setCell wr ⟨w.heap.size + 1, 4, none⟩ (.int .i64 ((a : Nat) : Int))) w.heap.size (K : Int) (W : Int) (Hh : Int) (M : Int) ((a : Nat) : Int) (0 : Int) (0 : Int)) = we at fz tz ⊢
     have q0 : we.cell? ⟨w.heap.size, 0, none⟩ = some (.int .i64 (K : Int)) := Blk.cell fz 0
     have q1 : we.cell? ⟨w.heap.size, 1, none⟩ = some (.int .i64 (W : Int)) := Blk.cell fz 1
     have q2 : we.cell? ⟨w.heap.size, 2, none⟩ = some (.int .i64 (Hh : Int)) := Blk.cell fz 2
     have q3 : we.cell? ⟨w.heap.size, 3, none⟩ = some (.int .i64 (M : Int)) := Blk.cell fz 3
     have q4 : we.cell? ⟨w.heap.size, 4, none⟩ = some (.int .i64 ((a : Nat) : Int)) := Blk.cell fz 4
     have q5 : we.cell? ⟨w.heap.size, 5, none⟩ = some (.int .i64 (0 : Int)) := Blk.cell fz 5
     have q6 : we.cell? ⟨w.heap.size, 6, none⟩ = some (.int .i64 (0 : Int)) := Blk.cell fz 6
     exact bodyPost_ret (v := .agg #[.int .i64 (K : Int), .int .i64 (W : Int), .int .i64 (Hh : Int), .int .i64 (M : Int), .int .i64 ((a : Nat) : Int), .int .i64 (0 : Int), .int .i64 (0 : Int)]) (by simp [results, Tryz.results9, go_sem, q0, q1, q2, q3, q4, q5, q6]) rfl ⟨by have e := HA.out; rw [← e]; rfl, tz.nilBelow⟩
 exact HX _ rfl


theorem refHead_any (s : ByteArray) (w : World) (hs : s.size ≤ 1099511627776) : Calls Tryz.prog 9 #[.string s] w fun e w' => e = .returned (headV (headAt (nats s))) ∧ Below w.heap.size w w' := by
 have hlen := nats_len s
 unfold headAt
 rw [hlen, show (nats s).getD 0 0 = bat s 0 from rfl, show (nats s).getD 1 0 = bat s 1 from rfl]
 by_cases h1 : s.size < 1
 ·rw [if_pos h1]
  exact ref_end0 h1
 rw [if_neg h1]
 by_cases h2 : bat s 0 ≠ 80
 ·rw [if_pos h2]
  exact ref_wrong0 (by omega) h2
 rw [if_neg h2]
 have h2' : bat s 0 = 80 := by omega
 by_cases h3 : s.size < 2
 ·rw [if_pos h3]
  exact ref_end1 (by omega) h2' (by omega)
 rw [if_neg h3]
 by_cases h4 : bat s 1 < 49 ∨ 54 < bat s 1
 ·rw [if_pos h4]
  rcases h4 with h4 | h4
  ·exact ref_wrong1a (by omega) h2' h4
  ·exact ref_wrong1b (by omega) h2' h4
 rw [if_neg h4]
 exact ref_sides (by omega) hs h2' (by omega) rfl
end Go.Proofs.YtgmgcfjllijhgaaGreat
