/- pnmhead.Size and its parts; the reference's Row. -/
import Derived.Test.YtegoakfhadmblaaPnmStage
namespace Go.Proofs.Ytegoakfhadmblaa
open Go.RowKit
set_option linter.unusedVariables false
set_option linter.unusedSimpArgs false

/-- a row's bytes -/
def rowN (K W M : Nat) : Nat := if K = 4 then (W + 7) / 8 else (if K = 6 then 3 * W else W) * (if 255 < M then 2 else 1)
theorem pwithin_any (v m : Int) (w : World) : Calls Try.prog 67 #[.int .i64 v, .int .i64 m] w fun e w' => e = .returned (.bool (decide (1 ≤ v ∧ v ≤ m))) ∧ w = w' := by
  by_cases h1 : 1 ≤ v
  · by_cases h2 : v ≤ m
    · rw [decide_eq_true (And.intro h1 h2)]
      go_enter Try.func67, Try.ntmps67
      go_wp2_with fail
      go_ret
      exact ⟨ret1 (vbool (by first | rfl | (simp; done) | (simp; omega))), rfl⟩
    · rw [decide_eq_false (by omega)]
      go_enter Try.func67, Try.ntmps67
      go_wp2_with fail
      go_ret
      exact ⟨ret1 (vbool (by first | rfl | (simp; done) | (simp; omega))), rfl⟩
  · rw [decide_eq_false (by omega)]
    go_enter Try.func67, Try.ntmps67
    go_wp2_with fail
    go_ret
    exact ⟨ret1 (vbool (by first | rfl | (simp; done) | (simp; omega))), rfl⟩
theorem pcolors_any (k : Int) (w : World) : Calls Try.prog 21 #[.int .i64 k] w fun e w' => e = .returned (.bool (decide (k = 3 ∨ k = 6))) ∧ w = w' := by
  by_cases h1 : k = 3
  · subst h1
    go_enter Try.func21, Try.ntmps21
    go_wp2_with fail
    go_ret
    exact ⟨rfl, rfl⟩
  · by_cases h2 : k = 6
    · subst h2
      go_enter Try.func21, Try.ntmps21
      go_wp2_with fail
      go_ret
      exact ⟨rfl, rfl⟩
    · rw [decide_eq_false (by omega)]
      go_enter Try.func21, Try.ntmps21
      go_wp2_with fail
      go_ret
      exact ⟨ret1 (vbool (by first | rfl | (simp; done) | simp_all)), rfl⟩
theorem ptextI_any (k : Int) (w : World) : Calls Try.prog 20 #[.int .i64 k] w fun e w' => e = .returned (.bool (decide (1 ≤ k ∧ k ≤ 3))) ∧ w = w' := by
  by_cases h1 : 1 ≤ k
  · by_cases h2 : k ≤ 3
    · rw [decide_eq_true (And.intro h1 h2)]
      go_enter Try.func20, Try.ntmps20
      go_wp2_with fail
      go_ret
      exact ⟨ret1 (vbool (by first | rfl | (simp; done) | (simp; omega))), rfl⟩
    · rw [decide_eq_false (by omega)]
      go_enter Try.func20, Try.ntmps20
      go_wp2_with fail
      go_ret
      exact ⟨ret1 (vbool (by first | rfl | (simp; done) | (simp; omega))), rfl⟩
  · rw [decide_eq_false (by omega)]
    go_enter Try.func20, Try.ntmps20
    go_wp2_with fail
    go_ret
    exact ⟨ret1 (vbool (by first | rfl | (simp; done) | (simp; omega))), rfl⟩

set_option maxRecDepth 100000 in
set_option maxHeartbeats 1000000 in
theorem psize_k4 {K W H M A : Int} {w : World} (h : K < 4) : Calls Try.prog 19 #[.agg #[.int .i64 K, .int .i64 W, .int .i64 H, .int .i64 M, .int .i64 A]] w fun e w' => e = .returned (.tuple #[.int .i64 0, .bool false]) ∧ Below w.heap.size w w' := by
  go_enter Try.func19, Try.ntmps19
  go_wp2_with fail
  go_ret2
  exact ⟨rfl, (Below.refl _ _).alloc (Nat.le_refl _) _⟩

set_option maxRecDepth 100000 in
set_option maxHeartbeats 1000000 in
theorem psize_k6 {K W H M A : Int} {w : World} (h : 6 < K) : Calls Try.prog 19 #[.agg #[.int .i64 K, .int .i64 W, .int .i64 H, .int .i64 M, .int .i64 A]] w fun e w' => e = .returned (.tuple #[.int .i64 0, .bool false]) ∧ Below w.heap.size w w' := by
  have k1 : ¬ K < 4 := by omega
  go_enter Try.func19, Try.ntmps19
  go_wp2_with fail
  go_ret2
  exact ⟨rfl, (Below.refl _ _).alloc (Nat.le_refl _) _⟩

set_option maxRecDepth 100000 in
set_option maxHeartbeats 1000000 in
theorem psize_w {K W H M A : Int} {w : World} (h : 4 ≤ K ∧ K ≤ 6) (hw : ¬ (1 ≤ W ∧ W ≤ 16384)) : Calls Try.prog 19 #[.agg #[.int .i64 K, .int .i64 W, .int .i64 H, .int .i64 M, .int .i64 A]] w fun e w' => e = .returned (.tuple #[.int .i64 0, .bool false]) ∧ Below w.heap.size w w' := by
  have k1 : ¬ K < 4 := by omega
  have k2 : ¬ 6 < K := by omega
  have HF0 : Hid (decide (1 ≤ W ∧ W ≤ 16384) = false) := Lib.hid (decide_eq_false (by omega))
  go_enter Try.func19, Try.ntmps19
  go_wp2_with (go_at_call 67; refine (pwithin_any _ _ _).mono ?_; rintro e w9 ⟨rfl, rfl⟩; first | rw [HF0.out])
  go_ret2
  exact ⟨rfl, (Below.refl _ _).alloc (Nat.le_refl _) _⟩

set_option maxRecDepth 100000 in
set_option maxHeartbeats 1000000 in
theorem psize_h {K W H M A : Int} {w : World} (h : 4 ≤ K ∧ K ≤ 6) (hw : 1 ≤ W ∧ W ≤ 16384) (hh : ¬ (1 ≤ H ∧ H ≤ 16384)) : Calls Try.prog 19 #[.agg #[.int .i64 K, .int .i64 W, .int .i64 H, .int .i64 M, .int .i64 A]] w fun e w' => e = .returned (.tuple #[.int .i64 0, .bool false]) ∧ Below w.heap.size w w' := by
  have k1 : ¬ K < 4 := by omega
  have k2 : ¬ 6 < K := by omega
  have HF0 : Hid (decide (1 ≤ W ∧ W ≤ 16384) = true) := Lib.hid (decide_eq_true (by omega))
  have HF1 : Hid (decide (1 ≤ H ∧ H ≤ 16384) = false) := Lib.hid (decide_eq_false (by omega))
  go_enter Try.func19, Try.ntmps19
  go_wp2_with (go_at_call 67; refine (pwithin_any _ _ _).mono ?_; rintro e w9 ⟨rfl, rfl⟩; first | rw [HF0.out] | rw [HF1.out])
  go_ret2
  exact ⟨rfl, (Below.refl _ _).alloc (Nat.le_refl _) _⟩

set_option maxRecDepth 100000 in
set_option maxHeartbeats 1000000 in
theorem psize_m {K W H M A : Int} {w : World} (h : 4 ≤ K ∧ K ≤ 6) (hw : 1 ≤ W ∧ W ≤ 16384) (hh : 1 ≤ H ∧ H ≤ 16384) (hm : ¬ (1 ≤ M ∧ M ≤ 65535)) : Calls Try.prog 19 #[.agg #[.int .i64 K, .int .i64 W, .int .i64 H, .int .i64 M, .int .i64 A]] w fun e w' => e = .returned (.tuple #[.int .i64 0, .bool false]) ∧ Below w.heap.size w w' := by
  have k1 : ¬ K < 4 := by omega
  have k2 : ¬ 6 < K := by omega
  have HF0 : Hid (decide (1 ≤ W ∧ W ≤ 16384) = true) := Lib.hid (decide_eq_true (by omega))
  have HF1 : Hid (decide (1 ≤ H ∧ H ≤ 16384) = true) := Lib.hid (decide_eq_true (by omega))
  have HF2 : Hid (decide (1 ≤ M ∧ M ≤ 65535) = false) := Lib.hid (decide_eq_false (by omega))
  go_enter Try.func19, Try.ntmps19
  go_wp2_with (go_at_call 67; refine (pwithin_any _ _ _).mono ?_; rintro e w9 ⟨rfl, rfl⟩; first | rw [HF0.out] | rw [HF1.out] | rw [HF2.out])
  go_ret2
  exact ⟨rfl, (Below.refl _ _).alloc (Nat.le_refl _) _⟩

set_option maxRecDepth 100000 in
set_option maxHeartbeats 1000000 in
theorem psize_4 {W H M z : Nat} {A : Int} {w : World} (hw : 1 ≤ W ∧ W ≤ 16384) (hh : 1 ≤ H ∧ H ≤ 16384) (hm : 1 ≤ M ∧ M ≤ 65535) (hz : z = rowN 4 W M * H) : Calls Try.prog 19 #[.agg #[.int .i64 4, .int .i64 (W : Int), .int .i64 (H : Int), .int .i64 (M : Int), .int .i64 A]] w fun e w' => e = .returned (.tuple #[.int .i64 (z : Int), .bool true]) ∧ Below w.heap.size w w' := by
  have HF0 : Hid (decide (1 ≤ (W : Int) ∧ (W : Int) ≤ 16384) = true) := Lib.hid (decide_eq_true (by omega))
  have HF1 : Hid (decide (1 ≤ (H : Int) ∧ (H : Int) ≤ 16384) = true) := Lib.hid (decide_eq_true (by omega))
  have HF2 : Hid (decide (1 ≤ (M : Int) ∧ (M : Int) ≤ 65535) = true) := Lib.hid (decide_eq_true (by omega))
  obtain ⟨q, hq⟩ : ∃ q, q = (W + 7) / 8 := ⟨_, rfl⟩
  have hq2 : q ≤ 2049 := by omega
  have hz2 : z = q * H := by rw [hz, hq]; rfl
  have hzb : z ≤ 2049 * 16384 := by rw [hz2]; exact Nat.mul_le_mul hq2 hh.2
  have hzi : (q : Int) * (H : Int) = (z : Int) := by rw [hz2]; exact (Int.natCast_mul q H).symm
  have hd1 : ((W : Int) + 7) / 8 = (q : Int) := by omega
  have hd2 : ((W : Int) + 7).tdiv 8 = (q : Int) := by rw [Int.tdiv_eq_ediv_of_nonneg (by omega)]; exact hd1
  clear hz hz2 hq
  go_enter Try.func19, Try.ntmps19
  go_wp2_with (first
    | (go_at_call 67; refine (pwithin_any _ _ _).mono ?_; rintro e w9 ⟨rfl, rfl⟩; first | rw [HF0.out] | rw [HF1.out] | rw [HF2.out])
    | (go_at_call 63; refine (pbitmap_any 4 _).mono ?_; rintro e w9 ⟨rfl, rfl⟩)
    | (go_at_call 21; refine (pcolors_any 4 _).mono ?_; rintro e w9 ⟨rfl, rfl⟩))
  go_ret2
  exact ⟨rfl, (Below.refl _ _).alloc (Nat.le_refl _) _⟩

set_option maxRecDepth 100000 in
set_option maxHeartbeats 1000000 in
theorem psize_5n {W H M z : Nat} {A : Int} {w : World} (hw : 1 ≤ W ∧ W ≤ 16384) (hh : 1 ≤ H ∧ H ≤ 16384) (hm : 1 ≤ M ∧ M ≤ 65535) (hb : ¬ 255 < M) (hz : z = rowN 5 W M * H) : Calls Try.prog 19 #[.agg #[.int .i64 5, .int .i64 (W : Int), .int .i64 (H : Int), .int .i64 (M : Int), .int .i64 A]] w fun e w' => e = .returned (.tuple #[.int .i64 (z : Int), .bool true]) ∧ Below w.heap.size w w' := by
  have HF0 : Hid (decide (1 ≤ (W : Int) ∧ (W : Int) ≤ 16384) = true) := Lib.hid (decide_eq_true (by omega))
  have HF1 : Hid (decide (1 ≤ (H : Int) ∧ (H : Int) ≤ 16384) = true) := Lib.hid (decide_eq_true (by omega))
  have HF2 : Hid (decide (1 ≤ (M : Int) ∧ (M : Int) ≤ 65535) = true) := Lib.hid (decide_eq_true (by omega))
  have hz2 : z = (W) * H := by rw [hz]; unfold rowN; rw [if_neg (by decide), if_neg (by decide), if_neg hb]; first | done | (congr 1; done) | (congr 1; omega)
  have hzb : z ≤ 16384 * 16384 := by rw [hz2]; exact Nat.mul_le_mul (by omega) hh.2
  have hzi : (W : Int) * (H : Int) = (z : Int) := by rw [hz2]; push_cast; rfl
  have hbi : ¬ (255 : Int) < (M : Int) := by omega
  clear hz hz2
  go_enter Try.func19, Try.ntmps19
  go_wp2_with (first
    | (go_at_call 67; refine (pwithin_any _ _ _).mono ?_; rintro e w9 ⟨rfl, rfl⟩; first | rw [HF0.out] | rw [HF1.out] | rw [HF2.out])
    | (go_at_call 63; refine (pbitmap_any 5 _).mono ?_; rintro e w9 ⟨rfl, rfl⟩)
    | (go_at_call 21; refine (pcolors_any 5 _).mono ?_; rintro e w9 ⟨rfl, rfl⟩))
  go_ret2
  exact ⟨rfl, (Below.refl _ _).alloc (Nat.le_refl _) _⟩

set_option maxRecDepth 100000 in
set_option maxHeartbeats 1000000 in
theorem psize_5b {W H M z : Nat} {A : Int} {w : World} (hw : 1 ≤ W ∧ W ≤ 16384) (hh : 1 ≤ H ∧ H ≤ 16384) (hm : 1 ≤ M ∧ M ≤ 65535) (hb : 255 < M) (hz : z = rowN 5 W M * H) : Calls Try.prog 19 #[.agg #[.int .i64 5, .int .i64 (W : Int), .int .i64 (H : Int), .int .i64 (M : Int), .int .i64 A]] w fun e w' => e = .returned (.tuple #[.int .i64 (z : Int), .bool true]) ∧ Below w.heap.size w w' := by
  have HF0 : Hid (decide (1 ≤ (W : Int) ∧ (W : Int) ≤ 16384) = true) := Lib.hid (decide_eq_true (by omega))
  have HF1 : Hid (decide (1 ≤ (H : Int) ∧ (H : Int) ≤ 16384) = true) := Lib.hid (decide_eq_true (by omega))
  have HF2 : Hid (decide (1 ≤ (M : Int) ∧ (M : Int) ≤ 65535) = true) := Lib.hid (decide_eq_true (by omega))
  have hz2 : z = (W * 2) * H := by rw [hz]; unfold rowN; rw [if_neg (by decide), if_neg (by decide), if_pos hb]; first | done | (congr 1; done) | (congr 1; omega)
  have hzb : z ≤ 32768 * 16384 := by rw [hz2]; exact Nat.mul_le_mul (by omega) hh.2
  have hzi : ((W : Int) * 2) * (H : Int) = (z : Int) := by rw [hz2]; push_cast; rfl
  have hbi : (255 : Int) < (M : Int) := by omega
  clear hz hz2
  go_enter Try.func19, Try.ntmps19
  go_wp2_with (first
    | (go_at_call 67; refine (pwithin_any _ _ _).mono ?_; rintro e w9 ⟨rfl, rfl⟩; first | rw [HF0.out] | rw [HF1.out] | rw [HF2.out])
    | (go_at_call 63; refine (pbitmap_any 5 _).mono ?_; rintro e w9 ⟨rfl, rfl⟩)
    | (go_at_call 21; refine (pcolors_any 5 _).mono ?_; rintro e w9 ⟨rfl, rfl⟩))
  go_ret2
  exact ⟨rfl, (Below.refl _ _).alloc (Nat.le_refl _) _⟩

set_option maxRecDepth 100000 in
set_option maxHeartbeats 1000000 in
theorem psize_6n {W H M z : Nat} {A : Int} {w : World} (hw : 1 ≤ W ∧ W ≤ 16384) (hh : 1 ≤ H ∧ H ≤ 16384) (hm : 1 ≤ M ∧ M ≤ 65535) (hb : ¬ 255 < M) (hz : z = rowN 6 W M * H) : Calls Try.prog 19 #[.agg #[.int .i64 6, .int .i64 (W : Int), .int .i64 (H : Int), .int .i64 (M : Int), .int .i64 A]] w fun e w' => e = .returned (.tuple #[.int .i64 (z : Int), .bool true]) ∧ Below w.heap.size w w' := by
  have HF0 : Hid (decide (1 ≤ (W : Int) ∧ (W : Int) ≤ 16384) = true) := Lib.hid (decide_eq_true (by omega))
  have HF1 : Hid (decide (1 ≤ (H : Int) ∧ (H : Int) ≤ 16384) = true) := Lib.hid (decide_eq_true (by omega))
  have HF2 : Hid (decide (1 ≤ (M : Int) ∧ (M : Int) ≤ 65535) = true) := Lib.hid (decide_eq_true (by omega))
  have hz2 : z = (W * 3) * H := by rw [hz]; unfold rowN; rw [if_neg (by decide), if_pos rfl, if_neg hb]; first | done | (congr 1; done) | (congr 1; omega)
  have hzb : z ≤ 49152 * 16384 := by rw [hz2]; exact Nat.mul_le_mul (by omega) hh.2
  have hzi : ((W : Int) * 3) * (H : Int) = (z : Int) := by rw [hz2]; push_cast; rfl
  have hbi : ¬ (255 : Int) < (M : Int) := by omega
  clear hz hz2
  go_enter Try.func19, Try.ntmps19
  go_wp2_with (first
    | (go_at_call 67; refine (pwithin_any _ _ _).mono ?_; rintro e w9 ⟨rfl, rfl⟩; first | rw [HF0.out] | rw [HF1.out] | rw [HF2.out])
    | (go_at_call 63; refine (pbitmap_any 6 _).mono ?_; rintro e w9 ⟨rfl, rfl⟩)
    | (go_at_call 21; refine (pcolors_any 6 _).mono ?_; rintro e w9 ⟨rfl, rfl⟩))
  go_ret2
  exact ⟨rfl, (Below.refl _ _).alloc (Nat.le_refl _) _⟩

set_option maxRecDepth 100000 in
set_option maxHeartbeats 1000000 in
theorem psize_6b {W H M z : Nat} {A : Int} {w : World} (hw : 1 ≤ W ∧ W ≤ 16384) (hh : 1 ≤ H ∧ H ≤ 16384) (hm : 1 ≤ M ∧ M ≤ 65535) (hb : 255 < M) (hz : z = rowN 6 W M * H) : Calls Try.prog 19 #[.agg #[.int .i64 6, .int .i64 (W : Int), .int .i64 (H : Int), .int .i64 (M : Int), .int .i64 A]] w fun e w' => e = .returned (.tuple #[.int .i64 (z : Int), .bool true]) ∧ Below w.heap.size w w' := by
  have HF0 : Hid (decide (1 ≤ (W : Int) ∧ (W : Int) ≤ 16384) = true) := Lib.hid (decide_eq_true (by omega))
  have HF1 : Hid (decide (1 ≤ (H : Int) ∧ (H : Int) ≤ 16384) = true) := Lib.hid (decide_eq_true (by omega))
  have HF2 : Hid (decide (1 ≤ (M : Int) ∧ (M : Int) ≤ 65535) = true) := Lib.hid (decide_eq_true (by omega))
  have hz2 : z = (W * 3 * 2) * H := by rw [hz]; unfold rowN; rw [if_neg (by decide), if_pos rfl, if_pos hb]; first | done | (congr 1; done) | (congr 1; omega)
  have hzb : z ≤ 98304 * 16384 := by rw [hz2]; exact Nat.mul_le_mul (by omega) hh.2
  have hzi : (((W : Int) * 3) * 2) * (H : Int) = (z : Int) := by rw [hz2]; push_cast; rfl
  have hbi : (255 : Int) < (M : Int) := by omega
  clear hz hz2
  go_enter Try.func19, Try.ntmps19
  go_wp2_with (first
    | (go_at_call 67; refine (pwithin_any _ _ _).mono ?_; rintro e w9 ⟨rfl, rfl⟩; first | rw [HF0.out] | rw [HF1.out] | rw [HF2.out])
    | (go_at_call 63; refine (pbitmap_any 6 _).mono ?_; rintro e w9 ⟨rfl, rfl⟩)
    | (go_at_call 21; refine (pcolors_any 6 _).mono ?_; rintro e w9 ⟨rfl, rfl⟩))
  go_ret2
  exact ⟨rfl, (Below.refl _ _).alloc (Nat.le_refl _) _⟩

set_option maxRecDepth 100000 in
set_option maxHeartbeats 1000000 in
theorem rrow_4n {W M r : Nat} {w : World} (hw : 1 ≤ W ∧ W ≤ 16384) (hm : 1 ≤ M ∧ M ≤ 65535) (hb : W % 8 = 0) (hr : r = rowN 4 W M) : Calls Try.prog 22 #[.agg #[.int .i64 4, .int .i64 (W : Int), .int .i64 0, .int .i64 (M : Int), .int .i64 0, .int .i64 0, .int .i64 0]] w fun e w' => e = .returned (.int .i64 (r : Int)) ∧ Below w.heap.size w w' := by
  have hr2 : r = (W + 7) / 8 := hr
  obtain ⟨q, hq⟩ : ∃ q, q = W / 8 := ⟨_, rfl⟩
  have hd1 : ((W : Int)) / 8 = (q : Int) := by omega
  have hd2 : ((W : Int)).tdiv 8 = (q : Int) := by rw [Int.tdiv_eq_ediv_of_nonneg (by omega)]; exact hd1
  obtain ⟨m, hm8⟩ : ∃ m, m = W % 8 := ⟨_, rfl⟩
  have he1 : ((W : Int)) % 8 = (m : Int) := by omega
  have he2 : ((W : Int)).tmod 8 = (m : Int) := by rw [Int.tmod_eq_emod_of_nonneg (by omega)]; exact he1
  have hq9 : q ≤ 2048 := by omega
  have h8 : ¬ (0 : Int) < (m : Int) := by omega
  have h9 : r = q := by omega
  obtain rfl : m = 0 := by omega
  have H9 := Lib.hid h9
  clear hq hm8 h9 hr2
  clear hr
  go_enter Try.func22, Try.ntmps22
  go_wp2_with fail
  go_ret
  exact ⟨ret1 (vint (by have := H9.out; omega)), (Below.refl _ _).alloc (Nat.le_refl _) _⟩

set_option maxRecDepth 100000 in
set_option maxHeartbeats 1000000 in
theorem rrow_4b {W M r : Nat} {w : World} (hw : 1 ≤ W ∧ W ≤ 16384) (hm : 1 ≤ M ∧ M ≤ 65535) (hb : W % 8 ≠ 0) (hr : r = rowN 4 W M) : Calls Try.prog 22 #[.agg #[.int .i64 4, .int .i64 (W : Int), .int .i64 0, .int .i64 (M : Int), .int .i64 0, .int .i64 0, .int .i64 0]] w fun e w' => e = .returned (.int .i64 (r : Int)) ∧ Below w.heap.size w w' := by
  have hr2 : r = (W + 7) / 8 := hr
  obtain ⟨q, hq⟩ : ∃ q, q = W / 8 := ⟨_, rfl⟩
  have hd1 : ((W : Int)) / 8 = (q : Int) := by omega
  have hd2 : ((W : Int)).tdiv 8 = (q : Int) := by rw [Int.tdiv_eq_ediv_of_nonneg (by omega)]; exact hd1
  obtain ⟨m, hm8⟩ : ∃ m, m = W % 8 := ⟨_, rfl⟩
  have he1 : ((W : Int)) % 8 = (m : Int) := by omega
  have he2 : ((W : Int)).tmod 8 = (m : Int) := by rw [Int.tmod_eq_emod_of_nonneg (by omega)]; exact he1
  have hq9 : q ≤ 2048 := by omega
  have h8 : (0 : Int) < (m : Int) := by omega
  have h8n : 0 < m := by omega
  have h9 : r = q + 1 := by omega
  have H9 := Lib.hid h9
  clear hq hm8 h9 hr2
  clear hr
  go_enter Try.func22, Try.ntmps22
  go_wp2_with fail
  go_ret
  exact ⟨ret1 (vint (by have := H9.out; omega)), (Below.refl _ _).alloc (Nat.le_refl _) _⟩

set_option maxRecDepth 100000 in
set_option maxHeartbeats 1000000 in
theorem rrow_5n {W M r : Nat} {w : World} (hw : 1 ≤ W ∧ W ≤ 16384) (hm : 1 ≤ M ∧ M ≤ 65535) (hb : ¬ 255 < M) (hr : r = rowN 5 W M) : Calls Try.prog 22 #[.agg #[.int .i64 5, .int .i64 (W : Int), .int .i64 0, .int .i64 (M : Int), .int .i64 0, .int .i64 0, .int .i64 0]] w fun e w' => e = .returned (.int .i64 (r : Int)) ∧ Below w.heap.size w w' := by
  have hr2 : r = W * 1 := by rw [hr]; unfold rowN; rw [if_neg (by decide), if_neg (by decide), if_neg hb]
  have hbi : ¬ (255 : Int) < (M : Int) := by omega
  clear hr
  go_enter Try.func22, Try.ntmps22
  go_wp2_with fail
  go_ret
  exact ⟨ret1 (vint (by omega)), (Below.refl _ _).alloc (Nat.le_refl _) _⟩

set_option maxRecDepth 100000 in
set_option maxHeartbeats 1000000 in
theorem rrow_5b {W M r : Nat} {w : World} (hw : 1 ≤ W ∧ W ≤ 16384) (hm : 1 ≤ M ∧ M ≤ 65535) (hb : 255 < M) (hr : r = rowN 5 W M) : Calls Try.prog 22 #[.agg #[.int .i64 5, .int .i64 (W : Int), .int .i64 0, .int .i64 (M : Int), .int .i64 0, .int .i64 0, .int .i64 0]] w fun e w' => e = .returned (.int .i64 (r : Int)) ∧ Below w.heap.size w w' := by
  have hr2 : r = W * 2 := by rw [hr]; unfold rowN; rw [if_neg (by decide), if_neg (by decide), if_pos hb]
  have hbi : (255 : Int) < (M : Int) := by omega
  clear hr
  go_enter Try.func22, Try.ntmps22
  go_wp2_with fail
  go_ret
  exact ⟨ret1 (vint (by omega)), (Below.refl _ _).alloc (Nat.le_refl _) _⟩

set_option maxRecDepth 100000 in
set_option maxHeartbeats 1000000 in
theorem rrow_6n {W M r : Nat} {w : World} (hw : 1 ≤ W ∧ W ≤ 16384) (hm : 1 ≤ M ∧ M ≤ 65535) (hb : ¬ 255 < M) (hr : r = rowN 6 W M) : Calls Try.prog 22 #[.agg #[.int .i64 6, .int .i64 (W : Int), .int .i64 0, .int .i64 (M : Int), .int .i64 0, .int .i64 0, .int .i64 0]] w fun e w' => e = .returned (.int .i64 (r : Int)) ∧ Below w.heap.size w w' := by
  have hr2 : r = (3 * W) * 1 := by rw [hr]; unfold rowN; rw [if_neg (by decide), if_pos rfl, if_neg hb]
  have hbi : ¬ (255 : Int) < (M : Int) := by omega
  clear hr
  go_enter Try.func22, Try.ntmps22
  go_wp2_with fail
  go_ret
  exact ⟨ret1 (vint (by omega)), (Below.refl _ _).alloc (Nat.le_refl _) _⟩

set_option maxRecDepth 100000 in
set_option maxHeartbeats 1000000 in
theorem rrow_6b {W M r : Nat} {w : World} (hw : 1 ≤ W ∧ W ≤ 16384) (hm : 1 ≤ M ∧ M ≤ 65535) (hb : 255 < M) (hr : r = rowN 6 W M) : Calls Try.prog 22 #[.agg #[.int .i64 6, .int .i64 (W : Int), .int .i64 0, .int .i64 (M : Int), .int .i64 0, .int .i64 0, .int .i64 0]] w fun e w' => e = .returned (.int .i64 (r : Int)) ∧ Below w.heap.size w w' := by
  have hr2 : r = (3 * W) * 2 := by rw [hr]; unfold rowN; rw [if_neg (by decide), if_pos rfl, if_pos hb]
  have hbi : (255 : Int) < (M : Int) := by omega
  clear hr
  go_enter Try.func22, Try.ntmps22
  go_wp2_with fail
  go_ret
  exact ⟨ret1 (vint (by omega)), (Below.refl _ _).alloc (Nat.le_refl _) _⟩

end Go.Proofs.Ytegoakfhadmblaa
