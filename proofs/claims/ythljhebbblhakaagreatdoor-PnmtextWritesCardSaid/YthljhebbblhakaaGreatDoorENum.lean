/- Number in both cases; same, fresh, awake of chapter 11. num.Mul, num.Product of small numbers; bits.Mul64. num.Mul and num.Product of small numbers. -/
import Derived.Test.YthljhebbblhakaaGreatDoorETok4
import Derived.Test.YthljhebbblhakaaGreatDoorEBits
import Derived.Test.YthljhebbblhakaaGreatDoorEPnmHead
import Derived.Test.YthljhebbblhakaaGreatDoorEWords
import Derived.Lib.Mul64
import Derived.Laws.Bits64b
import Derived.Deep.OwnRows
import Derived.Test.YthljhebbblhakaaGreatDoorESync
namespace Go.Proofs.YthljhebbblhakaaGreatDoor
open Go.RowKit
set_option linter.unusedVariables false
set_option linter.unusedSimpArgs false

def T0 : Led := ⟨0, 0, 0, 100000, 0, 0, 0, 0, 0⟩
theorem T0.ok : T0.Ok := by constructor <;> decide
end Go.Proofs.YthljhebbblhakaaGreatDoor
namespace Go.Proofs.YthljhebbblhakaaGreatDoor
open Go.RowKit
set_option linter.unusedVariables false
set_option linter.unusedSimpArgs false

theorem maskU (a : Nat) (ha : a < 18446744073709551616) : bits .and .u64 (a : Int) 4294967295 = ((a % 4294967296 : Nat) : Int) := by
  have h := bits_and_u64_nat a 4294967295 ha (by omega)
  rw [show a &&& 4294967295 = a % 4294967296 from Nat.and_two_pow_sub_one_eq_mod a 32] at h
  exact h
theorem divU (a : Nat) : (a : Int) / 4294967296 = ((a / 4294967296 : Nat) : Int) := by omega
theorem mulU (a b : Nat) : (a : Int) * (b : Int) = ((a * b : Nat) : Int) := (Int.natCast_mul a b).symm
theorem addU (a b : Nat) : (a : Int) + (b : Int) = ((a + b : Nat) : Int) := (Int.natCast_add a b).symm
theorem wrapU (a : Nat) (ha : a < 18446744073709551616) : IntKind.u64.wrap (a : Int) = (a : Int) := by rw [IntKind.wrap_u64]; omega
theorem wrapV (a : Nat) : IntKind.u64.wrap (a : Int) = ((a % 18446744073709551616 : Nat) : Int) := by rw [IntKind.wrap_u64]; omega

set_option maxRecDepth 100000 in
set_option maxHeartbeats 2000000 in
theorem mul64_any (x y : Nat) (hx : x < 18446744073709551616) (hy : y < 18446744073709551616) (w : World) :
    Calls Tryz.prog 103 #[.int .u64 x, .int .u64 y] w fun e w' => e = .returned (.tuple #[.int .u64 ((x * y / 18446744073709551616 : Nat) : Int), .int .u64 ((x * y % 18446744073709551616 : Nat) : Int)]) ∧ w = w' := by
  obtain ⟨bd, bt, bw, hhi⟩ := Lib.mul64_hi x y hx hy
  have ba := Lib.half_mul_le (a := x / 4294967296) (b := y / 4294967296) (by omega) (by omega)
  have bb := Lib.half_mul_le (a := x / 4294967296) (b := y % 4294967296) (by omega) (by omega)
  have bc := Lib.half_mul_le (a := x % 4294967296) (b := y / 4294967296) (by omega) (by omega)
  have ba' : x / 4294967296 * (y / 4294967296) < 18446744073709551616 := by omega
  have bb' : x / 4294967296 * (y % 4294967296) < 18446744073709551616 := by omega
  have bc' : x % 4294967296 * (y / 4294967296) < 18446744073709551616 := by omega
  have bh1 : x / 4294967296 * (y / 4294967296) + (x / 4294967296 * (y % 4294967296) + x % 4294967296 * (y % 4294967296) / 4294967296) / 4294967296 < 18446744073709551616 := by omega
  have bh : x / 4294967296 * (y / 4294967296) + (x / 4294967296 * (y % 4294967296) + x % 4294967296 * (y % 4294967296) / 4294967296) / 4294967296 + ((x / 4294967296 * (y % 4294967296) + x % 4294967296 * (y % 4294967296) / 4294967296) % 4294967296 + x % 4294967296 * (y / 4294967296)) / 4294967296 < 18446744073709551616 := by omega
  go_enter Tryz.func103, Tryz.ntmps103
  go_wp2
  simp only [maskU x hx, maskU y hy, divU, mulU, addU, wrapU _ bd, wrapU _ bb', wrapU _ bt, maskU _ bt, wrapU _ bc', wrapU _ bw, wrapU _ ba', wrapU _ bh1, wrapU _ bh, wrapV (x * y)]
  rw [hhi]
  go_ret2
  exact ⟨rfl, rfl⟩
end Go.Proofs.YthljhebbblhakaaGreatDoor
namespace Go.Proofs.YthljhebbblhakaaGreatDoor
open Go.RowKit
set_option linter.unusedVariables false
set_option linter.unusedSimpArgs false

theorem numIs_two {w : World} {g a b : Nat} (c0 : w.cell? ⟨g, 0, none⟩ = some (.int .i64 (a : Int))) (c1 : w.cell? ⟨g, 1, none⟩ = some (.int .i64 (b : Int))) (ha : a ≤ 4294967296) (hb : b ≤ 4294967296) :
    Calls Tryz.prog 102 #[.slice (some ⟨g, 0, none⟩) 2 2] w fun e w' => e = .returned (.bool true) ∧ w = w' := by
  have h0 : ¬ (a : Int) < 0 := by omega
  have h1 : ¬ (b : Int) < 0 := by omega
  have h2 : ¬ (4611686018427387904 : Int) < (a : Int) := by omega
  have h3 : ¬ (4611686018427387904 : Int) < (b : Int) := by omega
  go_enter Tryz.func102, Tryz.ntmps102
  go_wp2_with fail
  go_loopg [7] 2 (fun k iv wr => w = wr ∧ ((k = 2 ∧ iv = .int .i64 0) ∨ (k = 1 ∧ iv = .int .i64 1) ∨ (k = 0 ∧ iv = .int .i64 2)))
  case atStart => exact ⟨rfl, .inl ⟨rfl, rfl⟩⟩
  case round =>
    obtain ⟨rfl, ⟨rfl, rfl⟩ | ⟨rfl, rfl⟩ | ⟨rfl, rfl⟩⟩ := hrel
    · go_wp2_with fail
      go_roundg 1
      case measure => decide
      case rel => exact ⟨rfl, .inr (.inl ⟨rfl, rfl⟩)⟩
    · go_wp2_with fail
      go_roundg 0
      case measure => decide
      case rel => exact ⟨rfl, .inr (.inr ⟨rfl, rfl⟩)⟩
    · go_wp2_with fail
      go_ret
      exact ⟨rfl, rfl⟩
set_option maxRecDepth 100000 in
theorem numMul_any {a b z : Nat} (hz : a * b = z) (ha : a ≤ 4294967296) (hb : b ≤ 4294967296) (hm : z ≤ 4294967296) (w : World) :
    Calls Tryz.prog 77 #[.int .i64 (a : Int), .int .i64 (b : Int)] w fun e w' => e = .returned (.tuple #[.int .i64 (z : Int), .bool true]) ∧ Below w.heap.size w w' := by
  have HM : Hid (∀ w : World, Calls Tryz.prog 103 #[.int .u64 (a : Int), .int .u64 (b : Int)] w fun e w' => e = .returned (.tuple #[.int .u64 0, .int .u64 (z : Int)]) ∧ w = w') := Lib.hid (fun w => by
    have h := mul64_any a b (by omega) (by omega) w
    rw [hz, Nat.div_eq_of_lt (by omega), Nat.mod_eq_of_lt (by omega)] at h
    exact h)
  have hw1 : IntKind.u64.wrap (a : Int) = (a : Int) := wrapU a (by omega)
  have hw2 : IntKind.u64.wrap (b : Int) = (b : Int) := wrapU b (by omega)
  have hz1 : ¬ (4611686018427387904 : Int) < (z : Int) := by omega
  clear hz
  go_enter Tryz.func77, Tryz.ntmps77
  go_wp2_with (first
    | (go_at_call 102; refine (numIs_two (g := w.heap.size) (a := a) (b := b) (cell_new _ _ _ 0 _ rfl) (cell_new _ _ _ 1 _ rfl) ha hb).mono ?_; rintro e w9 ⟨rfl, rfl⟩)
    | (go_at_call 103; refine (HM.out _).mono ?_; rintro e w9 ⟨rfl, rfl⟩))
  go_ret2
  exact ⟨rfl, (Below.refl _ _).alloc (Nat.le_refl _) _⟩
set_option maxRecDepth 100000 in
theorem numFold_three {w : World} {g a b y z : Nat} (c0 : w.cell? ⟨g, 0, none⟩ = some (.int .i64 (a : Int))) (c1 : w.cell? ⟨g, 1, none⟩ = some (.int .i64 (b : Int))) (c2 : w.cell? ⟨g, 2, none⟩ = some (.int .i64 4)) (hy : a * b = y) (hz : y * 4 = z) (ha : a ≤ 4294967296) (hb : b ≤ 4294967296) (hz1 : z ≤ 4294967296) :
    Calls Tryz.prog 76 #[.int .i64 1, .func (.func 77) #[] #[], .slice (some ⟨g, 0, none⟩) 3 3] w fun e w' => e = .returned (.tuple #[.int .i64 (z : Int), .bool true]) ∧ Below w.heap.size w w' := by
  have HZ : Hid (y ≤ 4294967296) := Lib.hid (by omega)
  have M1 := Lib.hid (fun w => numMul_any (a := 1) (b := a) (z := a) (by omega) (by omega) ha (by omega) w)
  have M2 := Lib.hid (fun w => numMul_any (a := a) (b := b) (z := y) hy ha hb HZ.out w)
  have M3 := Lib.hid (fun w => numMul_any (a := y) (b := 4) (z := z) hz HZ.out (by omega) hz1 w)
  have hgw : g < w.heap.size := World.block_lt_of_cell? w _ c0
  clear hy hz
  go_enter Tryz.func76, Tryz.ntmps76
  go_wp2_with fail
  go_loopg [8, 15] 3 (fun k vv iv wr => Below w.heap.size w wr ∧ ((k = 3 ∧ iv = .int .i64 0 ∧ vv = .int .i64 1) ∨ (k = 2 ∧ iv = .int .i64 1 ∧ vv = .int .i64 (a : Int)) ∨ (k = 1 ∧ iv = .int .i64 2 ∧ vv = .int .i64 (y : Int)) ∨ (k = 0 ∧ iv = .int .i64 3 ∧ vv = .int .i64 (z : Int))))
  case atStart => exact ⟨Below.refl _ _, .inl ⟨rfl, rfl, rfl⟩⟩
  case round =>
    obtain ⟨hb0, hor⟩ := hrel
    have d0 := (hb0.cell (p := ⟨g, 0, none⟩) hgw).trans c0
    have d1 := (hb0.cell (p := ⟨g, 1, none⟩) hgw).trans c1
    have d2 := (hb0.cell (p := ⟨g, 2, none⟩) hgw).trans c2
    have HB0 := Lib.hid hb0
    clear hb0
    obtain ⟨rfl, rfl, rfl⟩ | ⟨rfl, rfl, rfl⟩ | ⟨rfl, rfl, rfl⟩ | ⟨rfl, rfl, rfl⟩ := hor
    · go_wp2_with (go_at_call 77; refine (M1.out _).mono ?_; rintro e w1 ⟨rfl, b1⟩)
      go_roundg 2
      case measure => decide
      case rel => exact ⟨below_next HB0.out b1, .inr (.inl ⟨rfl, rfl, rfl⟩)⟩
    · go_wp2_with (go_at_call 77; refine (M2.out _).mono ?_; rintro e w1 ⟨rfl, b1⟩)
      go_roundg 1
      case measure => decide
      case rel => exact ⟨below_next HB0.out b1, .inr (.inr (.inl ⟨rfl, rfl, rfl⟩))⟩
    · go_wp2_with (go_at_call 77; refine (M3.out _).mono ?_; rintro e w1 ⟨rfl, b1⟩)
      go_roundg 0
      case measure => decide
      case rel => exact ⟨below_next HB0.out b1, .inr (.inr (.inr ⟨rfl, rfl, rfl⟩))⟩
    · go_wp2_with fail
      go_ret2
      exact ⟨rfl, HB0.out⟩
theorem numProduct_three {w : World} {g a b y z : Nat} (c0 : w.cell? ⟨g, 0, none⟩ = some (.int .i64 (a : Int))) (c1 : w.cell? ⟨g, 1, none⟩ = some (.int .i64 (b : Int))) (c2 : w.cell? ⟨g, 2, none⟩ = some (.int .i64 4)) (hy : a * b = y) (hz : y * 4 = z) (ha : a ≤ 4294967296) (hb : b ≤ 4294967296) (hz1 : z ≤ 4294967296) :
    Calls Tryz.prog 54 #[.slice (some ⟨g, 0, none⟩) 3 3] w fun e w' => e = .returned (.tuple #[.int .i64 (z : Int), .bool true]) ∧ Below w.heap.size w w' := by
  have HF := Lib.hid (numFold_three c0 c1 c2 hy hz ha hb hz1)
  go_enter Tryz.func54, Tryz.ntmps54
  go_wp2_with (go_at_call 76; refine HF.out.mono ?_; rintro e w1 ⟨rfl, b1⟩)
  go_ret2
  exact ⟨rfl, b1⟩
end Go.Proofs.YthljhebbblhakaaGreatDoor
