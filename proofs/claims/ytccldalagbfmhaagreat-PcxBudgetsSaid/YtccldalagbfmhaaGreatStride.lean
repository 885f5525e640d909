/- num: Ceil and Stride. -/
import Derived.Test.YtccldalagbfmhaaGreatNum
namespace Go.Proofs.YtccldalagbfmhaaGreat
open Go.RowKit
set_option linter.unusedVariables false
set_option linter.unusedSimpArgs false

theorem numIs_three {w : World} {g a b c : Nat} (c0 : w.cell? ⟨g, 0, none⟩ = some (.int .i64 (a : Int))) (c1 : w.cell? ⟨g, 1, none⟩ = some (.int .i64 (b : Int))) (c2 : w.cell? ⟨g, 2, none⟩ = some (.int .i64 (c : Int))) (ha : a ≤ 4294967296) (hb : b ≤ 4294967296) (hc : c ≤ 4294967296) :
    Calls Tryz.prog 183 #[.slice (some ⟨g, 0, none⟩) 3 3] w fun e w' => e = .returned (.bool true) ∧ w = w' := by
  have h0 : ¬ (a : Int) < 0 := by omega
  have h1 : ¬ (b : Int) < 0 := by omega
  have h2 : ¬ (4611686018427387904 : Int) < (a : Int) := by omega
  have h3 : ¬ (4611686018427387904 : Int) < (b : Int) := by omega
  have h4 : ¬ (c : Int) < 0 := by omega
  have h5 : ¬ (4611686018427387904 : Int) < (c : Int) := by omega
  go_enter Tryz.func183, Tryz.ntmps183
  go_wp2_with fail
  go_loopg [7] 3 (fun k iv wr => w = wr ∧ ((k = 3 ∧ iv = .int .i64 0) ∨ (k = 2 ∧ iv = .int .i64 1) ∨ (k = 1 ∧ iv = .int .i64 2) ∨ (k = 0 ∧ iv = .int .i64 3)))
  case atStart => exact ⟨rfl, .inl ⟨rfl, rfl⟩⟩
  case round =>
    obtain ⟨rfl, ⟨rfl, rfl⟩ | ⟨rfl, rfl⟩ | ⟨rfl, rfl⟩ | ⟨rfl, rfl⟩⟩ := hrel
    · go_wp2_with fail
      go_roundg 2
      case measure => decide
      case rel => exact ⟨rfl, .inr (.inl ⟨rfl, rfl⟩)⟩
    · go_wp2_with fail
      go_roundg 1
      case measure => decide
      case rel => exact ⟨rfl, .inr (.inr (.inl ⟨rfl, rfl⟩))⟩
    · go_wp2_with fail
      go_roundg 0
      case measure => decide
      case rel => exact ⟨rfl, .inr (.inr (.inr ⟨rfl, rfl⟩))⟩
    · go_wp2_with fail
      go_ret
      exact ⟨rfl, rfl⟩
theorem numCeil_8 {a z : Nat} (ha : a ≤ 1073741824) (hz : (a + 7) / 8 = z) (w : World) :
    Calls Tryz.prog 184 #[.int .i64 (a : Int), .int .i64 8] w fun e w' => e = .returned (.tuple #[.int .i64 (z : Int), .bool true]) ∧ Below w.heap.size w w' := by
  have haI : (a : Int) ≤ 1073741824 := by omega
  obtain ⟨q, hq⟩ : ∃ q, a / 8 = q := ⟨_, rfl⟩
  obtain ⟨r, hr⟩ : ∃ r, a % 8 = r := ⟨_, rfl⟩
  have e1 : (a : Int) / 8 = (q : Int) := by omega
  have e2 : (a : Int) % 8 = (r : Int) := by omega
  have e1' : (a : Int).tdiv 8 = (q : Int) := by rw [Int.tdiv_eq_ediv_of_nonneg (by omega)]; exact e1
  have e2' : (a : Int).tmod 8 = (r : Int) := by rw [Int.tmod_eq_emod_of_nonneg (by omega)]; exact e2
  have hqI : (q : Int) ≤ 1073741824 := by omega
  by_cases h : r = 0
  · have hzq : z = q := by omega
    subst hzq
    have hrI : (r : Int) = 0 := by omega
    clear hq hr hz
    go_enter Tryz.func184, Tryz.ntmps184
    go_wp2_with (go_at_call 183; refine (numIs_two (g := w.heap.size) (a := a) (b := 8) (cell_new _ _ _ 0 _ rfl) (cell_new _ _ _ 1 _ rfl) (by omega) (by omega)).mono ?_; rintro e w9 ⟨rfl, rfl⟩)
    go_ret2
    exact ⟨rfl, (Below.refl _ _).alloc (Nat.le_refl _) _⟩
  · have hzq : z = q + 1 := by omega
    subst hzq
    have hrI : ¬ (r : Int) = 0 := by omega
    clear hq hr hz
    go_enter Tryz.func184, Tryz.ntmps184
    go_wp2_with (go_at_call 183; refine (numIs_two (g := w.heap.size) (a := a) (b := 8) (cell_new _ _ _ 0 _ rfl) (cell_new _ _ _ 1 _ rfl) (by omega) (by omega)).mono ?_; rintro e w9 ⟨rfl, rfl⟩)
    go_ret2
    exact ⟨rfl, (Below.refl _ _).alloc (Nat.le_refl _) _⟩
set_option maxRecDepth 100000 in
theorem numStride_8 {a p z y : Nat} (hp : 1 ≤ p) (ha : a ≤ 1073741824) (hp2 : p ≤ 1073741824) (hz : a * p = z) (hzb : z ≤ 1073741824) (hy : (z + 7) / 8 * 1 = y) (w : World) :
    Calls Tryz.prog 119 #[.int .i64 (a : Int), .int .i64 (p : Int), .int .i64 8] w fun e w' => e = .returned (.tuple #[.int .i64 (y : Int), .bool true]) ∧ Below w.heap.size w w' := by
  obtain ⟨n, hn⟩ : ∃ n, (z + 7) / 8 = n := ⟨_, rfl⟩
  have hp0 : ¬ (p : Int) = 0 := by omega
  have M1 := Lib.hid (fun w => numMul_any (a := a) (b := p) hz (by omega) (by omega) (by omega) w)
  have C1 := Lib.hid (fun w => numCeil_8 (a := z) (z := n) hzb hn w)
  obtain ⟨m, hm⟩ : ∃ m, n * 8 = m := ⟨_, rfl⟩
  have M2 := Lib.hid (fun w => numMul_any (a := n) (b := 8) hm (by omega) (by omega) (by omega) w)
  have hmy : (m : Int) / 8 = (y : Int) := by omega
  have hmy' : (m : Int).tdiv 8 = (y : Int) := by rw [Int.tdiv_eq_ediv_of_nonneg (by omega)]; exact hmy
  have hmI : (m : Int) ≤ 4294967296 := by omega
  have HA : Hid (a ≤ 4294967296 ∧ p ≤ 4294967296) := Lib.hid ⟨by omega, by omega⟩
  clear hz hy hn hm hzb ha hp2 hp
  go_enter Tryz.func119, Tryz.ntmps119
  go_wp2_with (first
    | (go_at_call 183; refine (numIs_three (g := w.heap.size) (a := a) (b := p) (c := 8) (cell_new _ _ _ 0 _ rfl) (cell_new _ _ _ 1 _ rfl) (cell_new _ _ _ 2 _ rfl) HA.out.1 HA.out.2 (by decide)).mono ?_; rintro e w9 ⟨rfl, rfl⟩)
    | (go_at_call_of 175 (Value.int .i64 (n : Int)); refine (M2.out _).mono ?_; rintro e w5 ⟨rfl, b5⟩)
    | (go_at_call 184; refine (C1.out _).mono ?_; rintro e w4 ⟨rfl, b4⟩)
    | (go_at_call_of 175 (Value.int .i64 (a : Int)); refine (M1.out _).mono ?_; rintro e w3 ⟨rfl, b3⟩))
  go_ret2
  exact ⟨rfl, below_next (below_next (below_next ((Below.refl _ _).alloc (Nat.le_refl _) _) b3) b4) b5⟩
theorem numCeil_16 {a z : Nat} (ha : a ≤ 1073741824) (hz : (a + 15) / 16 = z) (w : World) :
    Calls Tryz.prog 184 #[.int .i64 (a : Int), .int .i64 16] w fun e w' => e = .returned (.tuple #[.int .i64 (z : Int), .bool true]) ∧ Below w.heap.size w w' := by
  have haI : (a : Int) ≤ 1073741824 := by omega
  obtain ⟨q, hq⟩ : ∃ q, a / 16 = q := ⟨_, rfl⟩
  obtain ⟨r, hr⟩ : ∃ r, a % 16 = r := ⟨_, rfl⟩
  have e1 : (a : Int) / 16 = (q : Int) := by omega
  have e2 : (a : Int) % 16 = (r : Int) := by omega
  have e1' : (a : Int).tdiv 16 = (q : Int) := by rw [Int.tdiv_eq_ediv_of_nonneg (by omega)]; exact e1
  have e2' : (a : Int).tmod 16 = (r : Int) := by rw [Int.tmod_eq_emod_of_nonneg (by omega)]; exact e2
  have hqI : (q : Int) ≤ 1073741824 := by omega
  by_cases h : r = 0
  · have hzq : z = q := by omega
    subst hzq
    have hrI : (r : Int) = 0 := by omega
    clear hq hr hz
    go_enter Tryz.func184, Tryz.ntmps184
    go_wp2_with (go_at_call 183; refine (numIs_two (g := w.heap.size) (a := a) (b := 16) (cell_new _ _ _ 0 _ rfl) (cell_new _ _ _ 1 _ rfl) (by omega) (by omega)).mono ?_; rintro e w9 ⟨rfl, rfl⟩)
    go_ret2
    exact ⟨rfl, (Below.refl _ _).alloc (Nat.le_refl _) _⟩
  · have hzq : z = q + 1 := by omega
    subst hzq
    have hrI : ¬ (r : Int) = 0 := by omega
    clear hq hr hz
    go_enter Tryz.func184, Tryz.ntmps184
    go_wp2_with (go_at_call 183; refine (numIs_two (g := w.heap.size) (a := a) (b := 16) (cell_new _ _ _ 0 _ rfl) (cell_new _ _ _ 1 _ rfl) (by omega) (by omega)).mono ?_; rintro e w9 ⟨rfl, rfl⟩)
    go_ret2
    exact ⟨rfl, (Below.refl _ _).alloc (Nat.le_refl _) _⟩
set_option maxRecDepth 100000 in
theorem numStride_16 {a p z y : Nat} (hp : 1 ≤ p) (ha : a ≤ 1073741824) (hp2 : p ≤ 1073741824) (hz : a * p = z) (hzb : z ≤ 1073741824) (hy : (z + 15) / 16 * 2 = y) (w : World) :
    Calls Tryz.prog 119 #[.int .i64 (a : Int), .int .i64 (p : Int), .int .i64 16] w fun e w' => e = .returned (.tuple #[.int .i64 (y : Int), .bool true]) ∧ Below w.heap.size w w' := by
  obtain ⟨n, hn⟩ : ∃ n, (z + 15) / 16 = n := ⟨_, rfl⟩
  have hp0 : ¬ (p : Int) = 0 := by omega
  have M1 := Lib.hid (fun w => numMul_any (a := a) (b := p) hz (by omega) (by omega) (by omega) w)
  have C1 := Lib.hid (fun w => numCeil_16 (a := z) (z := n) hzb hn w)
  obtain ⟨m, hm⟩ : ∃ m, n * 16 = m := ⟨_, rfl⟩
  have M2 := Lib.hid (fun w => numMul_any (a := n) (b := 16) hm (by omega) (by omega) (by omega) w)
  have hmy : (m : Int) / 8 = (y : Int) := by omega
  have hmy' : (m : Int).tdiv 8 = (y : Int) := by rw [Int.tdiv_eq_ediv_of_nonneg (by omega)]; exact hmy
  have hmI : (m : Int) ≤ 4294967296 := by omega
  have HA : Hid (a ≤ 4294967296 ∧ p ≤ 4294967296) := Lib.hid ⟨by omega, by omega⟩
  clear hz hy hn hm hzb ha hp2 hp
  go_enter Tryz.func119, Tryz.ntmps119
  go_wp2_with (first
    | (go_at_call 183; refine (numIs_three (g := w.heap.size) (a := a) (b := p) (c := 16) (cell_new _ _ _ 0 _ rfl) (cell_new _ _ _ 1 _ rfl) (cell_new _ _ _ 2 _ rfl) HA.out.1 HA.out.2 (by decide)).mono ?_; rintro e w9 ⟨rfl, rfl⟩)
    | (go_at_call_of 175 (Value.int .i64 (n : Int)); refine (M2.out _).mono ?_; rintro e w5 ⟨rfl, b5⟩)
    | (go_at_call 184; refine (C1.out _).mono ?_; rintro e w4 ⟨rfl, b4⟩)
    | (go_at_call_of 175 (Value.int .i64 (a : Int)); refine (M1.out _).mono ?_; rintro e w3 ⟨rfl, b3⟩))
  go_ret2
  exact ⟨rfl, below_next (below_next (below_next ((Below.refl _ _).alloc (Nat.le_refl _) _) b3) b4) b5⟩
end Go.Proofs.YtccldalagbfmhaaGreat
