/- tgapix.kind; the document's color, bad and Kind of TGA. -/
import Derived.Test.YtlehkgkomjojmaaGreatGTgaA
namespace Go.Proofs.YtlehkgkomjojmaaGreat
open Go.RowKit
set_option linter.unusedVariables false
set_option linter.unusedSimpArgs false

theorem refTgaCol (n : Nat) (w : World) : Calls Tryz.prog 124 #[.int .i64 (n : Int)] w fun e w' => e = .returned (.bool (decide (TgaCol n))) ∧ w = w' := by
 have e : ((n : Int) == 15 || (n : Int) == 16 || (n : Int) == 24 || (n : Int) == 32) = decide (TgaCol n) := by
  rw [Bool.eq_iff_iff]
  simp only [Bool.or_eq_true, beq_iff_eq, decide_eq_true_eq]
  unfold TgaCol
  omega
 have E := Lib.hid (ret1 (congrArg Value.bool e))
 clear e
 by_cases h0 : (n : Int) = 15
 ·go_enter Tryz.func124, Tryz.ntmps124
  go_wp2_with fail
  all_goals go_ret
  all_goals exact ⟨(by rw [← E.out]; simp_all), rfl⟩
 ·go_enter Tryz.func124, Tryz.ntmps124
  go_wp2_with fail
  all_goals go_ret
  all_goals exact ⟨(by rw [← E.out]; simp_all), rfl⟩
/-- a head's value, the document's: with a fault's kind and place -/
def tRdV (n m t f c e W H d a : Int) (l p : Bool) (k i : Int) : Value := .agg #[.int .i64 n, .int .i64 m, .int .i64 t, .int .i64 f, .int .i64 c, .int .i64 e, .int .i64 W, .int .i64 H, .int .i64 d, .int .i64 a, .bool l, .bool p, .int .i64 k, .int .i64 i]
theorem refTgaBad (k i : Int) (w : World) : Calls Tryz.prog 123 #[.int .i64 k, .int .i64 i] w fun e w' => e = .returned (tRdV 0 0 0 0 0 0 0 0 0 0 false false k i) ∧ Below w.heap.size w w' := by
 go_enter Tryz.func123, Tryz.ntmps123
 go_wp2_with fail
 exact bodyPost_ret (v := tRdV 0 0 0 0 0 0 0 0 0 0 false false k i) (by simp [results, Tryz.results123, go_sem, tRdV]) rfl ⟨rfl, (Below.refl _ _).alloc (Nat.le_refl _) _⟩
theorem refTgaKind {n v : Nat} (hv : tgaKind n = v) (w : World) : Calls Tryz.prog 125 #[.int .i64 (n : Int)] w fun e w' => e = .returned (.int .i64 (v : Int)) ∧ w = w' := by
 subst hv
 unfold tgaKind
 by_cases h24 : n = 24
 ·have hI : (n : Int) = 24 := by omega
  rw [if_pos h24]
  go_enter Tryz.func125, Tryz.ntmps125
  go_wp2_with fail
  go_ret
  exact ⟨rfl, rfl⟩
 ·have hI : ¬ (n : Int) = 24 := by omega
  rw [if_neg h24]
  by_cases h32 : n = 32
  ·have hJ : (n : Int) = 32 := by omega
   rw [if_pos h32]
   go_enter Tryz.func125, Tryz.ntmps125
   go_wp2_with fail
   go_ret
   exact ⟨rfl, rfl⟩
  ·have hJ : ¬ (n : Int) = 32 := by omega
   rw [if_neg h32]
   go_enter Tryz.func125, Tryz.ntmps125
   go_wp2_with fail
   go_ret
   exact ⟨rfl, rfl⟩
theorem tgaKindC {n v : Nat} (hc : TgaCol n) (hv : tgaKind n = v) (w : World) : Calls Tryz.prog 174 #[.int .i64 (n : Int)] w fun e w' => e = .returned (.int .i64 (v : Int)) ∧ w = w' := by
 subst hv
 rcases hc with rfl | rfl | rfl | rfl
 ·go_enter Tryz.func174, Tryz.ntmps174
  go_wp2_with fail
  go_ret
  exact ⟨rfl, rfl⟩
 ·go_enter Tryz.func174, Tryz.ntmps174
  go_wp2_with fail
  go_ret
  exact ⟨rfl, rfl⟩
 ·go_enter Tryz.func174, Tryz.ntmps174
  go_wp2_with fail
  go_ret
  exact ⟨rfl, rfl⟩
 ·go_enter Tryz.func174, Tryz.ntmps174
  go_wp2_with fail
  go_ret
  exact ⟨rfl, rfl⟩
/-- a head's value, the program's -/
def tHdV (h : TgaHd) : Value := .agg #[.int .i64 (h.name : Int), .bool h.map, .int .i64 (h.typ : Int), .int .i64 (h.first : Int), .int .i64 (h.count : Int), .int .i64 (h.entry : Int), .int .i64 (h.W : Int), .int .i64 (h.H : Int), .int .i64 (h.depth : Int), .int .i64 (h.alpha : Int), .bool h.left, .bool h.top]
def TgaHd.col (h : TgaHd) (k : Nat) : Nat := if h.left then h.W - 1 - k % h.W else k % h.W
def TgaHd.rw (h : TgaHd) (k : Nat) : Nat := if h.top then k / h.W else h.H - 1 - k / h.W
set_option maxHeartbeats 1000000 in
theorem tgaPlaceC {h : TgaHd} {k X Y : Nat} (hk : k < h.W * h.H) (w1 : 1 ≤ h.W) (w2 : h.W ≤ 16384) (h2 : h.H ≤ 16384) (hX : h.col k = X) (hY : h.rw k = Y) (w : World) : Calls Tryz.prog 67 #[tHdV h, .int .i64 (k : Int)] w fun e w' => e = .returned (.tuple #[.int .i64 (X : Int), .int .i64 (Y : Int)]) ∧ Below w.heap.size w w' := by
 obtain ⟨n, m, t, f, c, en, W, H, d, a, l, p⟩ := h
 unfold tHdV
 unfold TgaHd.col at hX
 unfold TgaHd.rw at hY
 simp only at hk w1 w2 h2 hX hY ⊢
 have q : k / W < H := Nat.div_lt_of_lt_mul hk
 have r : k % W < W := Nat.mod_lt _ (by omega)
 have hP : W * H ≤ 16384 * 16384 := Nat.mul_le_mul w2 h2
 obtain ⟨x, hx⟩ : ∃ x, k % W = x := ⟨_, rfl⟩
 obtain ⟨y, hy⟩ : ∃ y, k / W = y := ⟨_, rfl⟩
 have hxI : (k : Int) % (W : Int) = (x : Int) := by rw [← Int.natCast_emod, hx]
 have hyI : (k : Int) / (W : Int) = (y : Int) := by rw [← Int.natCast_ediv, hy]
 rw [hx] at r hX
 rw [hy] at q hY
 have hW0 : ¬ (W : Int) = 0 := by omega
 have hkB : (k : Int) ≤ 268435456 := by omega
 have HB := Lib.hid ((Below.refl w.heap.size w).alloc (Nat.le_refl _) (.cells #[.int .i64 (n : Int), .bool m, .int .i64 (t : Int), .int .i64 (f : Int), .int .i64 (c : Int), .int .i64 (en : Int), .int .i64 (W : Int), .int .i64 (H : Int), .int .i64 (d : Int), .int .i64 (a : Int), .bool l, .bool p] 121))
 clear hx hy hk hP
 cases l <;> cases p
 ·have hX' : (x : Int) = (X : Int) := by simp at hX; omega
  have hY' : (H : Int) - 1 - (y : Int) = (Y : Int) := by simp at hY; omega
  clear hX hY
  go_enter Tryz.func67, Tryz.ntmps67
  go_upto_region 1 with fail
  go_region
  go_wp2_with fail
  exact bodyPost_ret (v := .tuple #[.int .i64 (X : Int), .int .i64 (Y : Int)]) (by simp [results, Tryz.results67, go_sem, hxI, hyI, hX', hY']) rfl ⟨rfl, HB.out.drew⟩
 ·have hX' : (x : Int) = (X : Int) := by simp at hX; omega
  have hY' : (y : Int) = (Y : Int) := by simp at hY; omega
  clear hX hY
  go_enter Tryz.func67, Tryz.ntmps67
  go_upto_region 1 with fail
  go_region
  go_wp2_with fail
  exact bodyPost_ret (v := .tuple #[.int .i64 (X : Int), .int .i64 (Y : Int)]) (by simp [results, Tryz.results67, go_sem, hxI, hyI, hX', hY']) rfl ⟨rfl, HB.out.drew⟩
 ·have hX' : (W : Int) - 1 - (x : Int) = (X : Int) := by simp at hX; omega
  have hY' : (H : Int) - 1 - (y : Int) = (Y : Int) := by simp at hY; omega
  clear hX hY
  go_enter Tryz.func67, Tryz.ntmps67
  go_upto_region 1 with fail
  go_region
  go_wp2_with fail
  exact bodyPost_ret (v := .tuple #[.int .i64 (X : Int), .int .i64 (Y : Int)]) (by simp [results, Tryz.results67, go_sem, hxI, hyI, hX', hY']) rfl ⟨rfl, HB.out.drew⟩
 ·have hX' : (W : Int) - 1 - (x : Int) = (X : Int) := by simp at hX; omega
  have hY' : (y : Int) = (Y : Int) := by simp at hY; omega
  clear hX hY
  go_enter Tryz.func67, Tryz.ntmps67
  go_upto_region 1 with fail
  go_region
  go_wp2_with fail
  exact bodyPost_ret (v := .tuple #[.int .i64 (X : Int), .int .i64 (Y : Int)]) (by simp [results, Tryz.results67, go_sem, hxI, hyI, hX', hY']) rfl ⟨rfl, HB.out.drew⟩
/-- a head's value, the document's, with nothing wrong -/
def tRV (h : TgaHd) : Value := tRdV (h.name : Int) (if h.map then 1 else 0) (h.typ : Int) (h.first : Int) (h.count : Int) (h.entry : Int) (h.W : Int) (h.H : Int) (h.depth : Int) (h.alpha : Int) h.left h.top 0 0
set_option maxHeartbeats 1000000 in
theorem refTgaPlace {h : TgaHd} {k P : Nat} (hk : k < h.W * h.H) (w1 : 1 ≤ h.W) (w2 : h.W ≤ 16384) (h2 : h.H ≤ 16384) (hP : h.place k = P) (w : World) : Calls Tryz.prog 130 #[tRV h, .int .i64 (k : Int)] w fun e w' => e = .returned (.int .i64 (P : Int)) ∧ Below w.heap.size w w' := by
 have hPl := TgaHd.place_lt w1 hk
 obtain ⟨n, m, t, f, c, en, W, H, d, a, l, p⟩ := h
 unfold tRV tRdV
 unfold TgaHd.place at hP hPl
 simp only at hk w1 w2 h2 hP hPl ⊢
 generalize (if m = true then (1 : Int) else 0) = mi
 have q : k / W < H := Nat.div_lt_of_lt_mul hk
 have r : k % W < W := Nat.mod_lt _ (by omega)
 have hPP : W * H ≤ 16384 * 16384 := Nat.mul_le_mul w2 h2
 obtain ⟨x, hx⟩ : ∃ x, k % W = x := ⟨_, rfl⟩
 obtain ⟨y, hy⟩ : ∃ y, k / W = y := ⟨_, rfl⟩
 have hxI : (k : Int) % (W : Int) = (x : Int) := by rw [← Int.natCast_emod, hx]
 have hyI : (k : Int) / (W : Int) = (y : Int) := by rw [← Int.natCast_ediv, hy]
 rw [hx, hy] at hP hPl
 rw [hx] at r
 rw [hy] at q
 have hW0 : ¬ (W : Int) = 0 := by omega
 have hkB : (k : Int) ≤ 268435456 := by omega
 obtain ⟨Y, hY⟩ : ∃ Y, (if p = true then y else H - 1 - y) = Y := ⟨_, rfl⟩
 obtain ⟨X, hX⟩ : ∃ X, (if l = true then W - 1 - x else x) = X := ⟨_, rfl⟩
 rw [hX, hY] at hP hPl
 obtain ⟨YW, hYW⟩ : ∃ q, Y * W = q := ⟨_, rfl⟩
 rw [hYW] at hP hPl
 have hYWB : YW ≤ 16384 * 16384 := by omega
 have hYWI : IntKind.i64.wrap ((Y : Int) * (W : Int)) = (YW : Int) := by rw [← Int.natCast_mul, hYW]; exact IntWalk.i64_in _ (by omega)
 have hPI : (YW : Int) + (X : Int) = (P : Int) := by omega
 have hXB : (X : Int) ≤ 16384 := by rw [← hX]; split <;> omega
 have HB := Lib.hid ((Below.refl w.heap.size w).alloc (Nat.le_refl _) (.cells #[.int .i64 (n : Int), .int .i64 mi, .int .i64 (t : Int), .int .i64 (f : Int), .int .i64 (c : Int), .int .i64 (en : Int), .int .i64 (W : Int), .int .i64 (H : Int), .int .i64 (d : Int), .int .i64 (a : Int), .bool l, .bool p, .int .i64 0, .int .i64 0] 133))
 clear hx hy hk hPP hPl hYW hP
 cases l <;> cases p
 ·have hX' : (x : Int) = (X : Int) := by simp at hX; omega
  have hY' : (H : Int) - 1 - (y : Int) = (Y : Int) := by simp at hY; omega
  obtain rfl : x = X := by omega
  clear hX hY
  go_enter Tryz.func130, Tryz.ntmps130
  go_upto_region 1 with fail
  go_region
  go_wp2_with fail
  exact bodyPost_ret (v := .int .i64 (P : Int)) (by simp [results, Tryz.results130, go_sem, hxI, hyI, hX', hY', hYWI, hPI]) rfl ⟨rfl, HB.out.drew⟩
 ·have hX' : (x : Int) = (X : Int) := by simp at hX; omega
  have hY' : (y : Int) = (Y : Int) := by simp at hY; omega
  obtain rfl : x = X := by omega
  obtain rfl : y = Y := by omega
  clear hX hY
  go_enter Tryz.func130, Tryz.ntmps130
  go_upto_region 1 with fail
  go_region
  go_wp2_with fail
  exact bodyPost_ret (v := .int .i64 (P : Int)) (by simp [results, Tryz.results130, go_sem, hxI, hyI, hX', hY', hYWI, hPI]) rfl ⟨rfl, HB.out.drew⟩
 ·have hX' : (W : Int) - 1 - (x : Int) = (X : Int) := by simp at hX; omega
  have hY' : (H : Int) - 1 - (y : Int) = (Y : Int) := by simp at hY; omega
  clear hX hY
  go_enter Tryz.func130, Tryz.ntmps130
  go_upto_region 1 with fail
  go_region
  go_wp2_with fail
  exact bodyPost_ret (v := .int .i64 (P : Int)) (by simp [results, Tryz.results130, go_sem, hxI, hyI, hX', hY', hYWI, hPI]) rfl ⟨rfl, HB.out.drew⟩
 ·have hX' : (W : Int) - 1 - (x : Int) = (X : Int) := by simp at hX; omega
  have hY' : (y : Int) = (Y : Int) := by simp at hY; omega
  obtain rfl : y = Y := by omega
  clear hX hY
  go_enter Tryz.func130, Tryz.ntmps130
  go_upto_region 1 with fail
  go_region
  go_wp2_with fail
  exact bodyPost_ret (v := .int .i64 (P : Int)) (by simp [results, Tryz.results130, go_sem, hxI, hyI, hX', hY', hYWI, hPI]) rfl ⟨rfl, HB.out.drew⟩
theorem tgaMappedC (h : TgaHd) (w : World) : Calls Tryz.prog 175 #[tHdV h] w fun e w' => e = .returned (.bool (decide (h.typ = 1 ∨ h.typ = 9))) ∧ Below w.heap.size w w' := by
 obtain ⟨n, m, t, f, c, en, W, H, d, a, l, p⟩ := h
 unfold tHdV
 simp only
 have HB := Lib.hid ((Below.refl w.heap.size w).alloc (Nat.le_refl _) (.cells #[.int .i64 (n : Int), .bool m, .int .i64 (t : Int), .int .i64 (f : Int), .int .i64 (c : Int), .int .i64 (en : Int), .int .i64 (W : Int), .int .i64 (H : Int), .int .i64 (d : Int), .int .i64 (a : Int), .bool l, .bool p] 121))
 by_cases h1 : t = 1
 ·have c1 : ((t : Int) == 1) = true := by rw [beq_iff_eq]; omega
  rw [decide_eq_true (p := t = 1 ∨ t = 9) (.inl h1)]
  clear h1
  go_enter Tryz.func175, Tryz.ntmps175
  go_wp2_with fail
  exact bodyPost_ret (v := .bool true) (by simp [results, Tryz.results175, go_sem]) rfl ⟨rfl, HB.out⟩
 ·have c1 : ((t : Int) == 1) = false := by rw [beq_eq_false_iff_ne]; omega
  by_cases h9 : t = 9
  ·have c9 : ((t : Int) == 9) = true := by rw [beq_iff_eq]; omega
   rw [decide_eq_true (p := t = 1 ∨ t = 9) (.inr h9)]
   clear h1 h9
   go_enter Tryz.func175, Tryz.ntmps175
   go_wp2_with fail
   exact bodyPost_ret (v := .bool true) (by simp [results, Tryz.results175, go_sem, c9]) rfl ⟨rfl, HB.out⟩
  ·have c9 : ((t : Int) == 9) = false := by rw [beq_eq_false_iff_ne]; omega
   rw [decide_eq_false (p := t = 1 ∨ t = 9) (by omega)]
   clear h1 h9
   go_enter Tryz.func175, Tryz.ntmps175
   go_wp2_with fail
   exact bodyPost_ret (v := .bool false) (by simp [results, Tryz.results175, go_sem, c9]) rfl ⟨rfl, HB.out⟩
end Go.Proofs.YtlehkgkomjojmaaGreat
