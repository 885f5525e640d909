/- The contracts of scale's functions and of the reference of chapter 8: what each returns, for every argument. -/
import Derived.Test.YtfgcbhcfekonnaaProg
import Derived.Test.YtfgcbhcfekonnaaScaleLaw
import Derived.Test.YtfgcbhcfekonnaaWords
namespace Go.Proofs.Ytfgcbhcfekonnaa
set_option linter.unusedVariables false
open Go.RowKit

theorem scaleMax_no (v m : Int) (w : World) (h : smay v m = false) :
    Calls Try.prog 112 #[.int .i64 v, .int .i64 m] w fun e w' => e = .returned (.tuple #[.int .u8 0, .bool false]) ∧ w = w' := by
  have h' : ¬ (1 ≤ m ∧ m ≤ 4294967295 ∧ 0 ≤ v ∧ v ≤ m) := by simpa [smay] using h
  clear h
  by_cases h1 : m < 1
  · go_enter Try.func112, Try.ntmps112
    go_wp2
    go_ret2
    exact ⟨rfl, rfl⟩
  by_cases h2 : 4294967295 < m
  · go_enter Try.func112, Try.ntmps112
    go_wp2
    go_ret2
    exact ⟨rfl, rfl⟩
  by_cases h3 : v < 0
  · go_enter Try.func112, Try.ntmps112
    go_wp2
    go_ret2
    exact ⟨rfl, rfl⟩
  have h4 : m < v := by omega
  go_enter Try.func112, Try.ntmps112
  go_wp2
  go_ret2
  exact ⟨rfl, rfl⟩

theorem scaleMax_yes (v m : Int) (w : World) (h : smay v m = true) :
    Calls Try.prog 112 #[.int .i64 v, .int .i64 m] w fun e w' => e = .returned (.tuple #[.int .u8 (sround v m), .bool true]) ∧ w = w' := by
  obtain ⟨h1, h2, h3, h4⟩ := smay_iff.1 h
  have hr := sround_range h1 h3 h4
  clear h
  go_enter Try.func112, Try.ntmps112
  go_wp2
  go_ret2
  refine ⟨ret2 (vint ?_) rfl, rfl⟩
  show sround v m % 256 = _
  omega

/-- both ways in one -/
theorem scaleMax_any (v m : Int) (w : World) :
    Calls Try.prog 112 #[.int .i64 v, .int .i64 m] w fun e w' => e = .returned (.tuple #[.int .u8 (smax v m), .bool (smay v m)]) ∧ w = w' := by
  cases h : smay v m
  · rw [show smax v m = 0 by simp [smax, h]]; exact scaleMax_no v m w h
  · rw [show smax v m = sround v m by simp [smax, h]]; exact scaleMax_yes v m w h

theorem refFar_any (v m x : Int) (w : World) (h2 : m ≤ 4294967295) (h3 : 0 ≤ v) (h4 : v ≤ m) (h5 : 0 ≤ x) (h6 : x ≤ 255) :
    Calls Try.prog 95 #[.int .i64 v, .int .i64 m, .int .i64 x] w fun e w' => e = .returned (.int .i64 (rfar v m x)) ∧ w = w' := by
  have hm : x * m ≤ 255 * 4294967295 := Int.mul_le_mul h6 h2 (by omega) (by omega)
  have hm0 : 0 ≤ x * m := Int.mul_nonneg h5 (by omega)
  by_cases hd : v * 255 - x * m < 0
  · have e : rfar v m x = -(v * 255 - x * m) := if_pos hd
    rw [e]
    clear e
    go_enter Try.func95, Try.ntmps95
    go_wp2
    go_ret
    exact ⟨ret1 (vint (by omega)), rfl⟩
  · have e : rfar v m x = (v * 255 - x * m) := if_neg hd
    rw [e]
    clear e
    go_enter Try.func95, Try.ntmps95
    go_wp2
    go_ret
    exact ⟨ret1 (vint (by omega)), rfl⟩

set_option maxRecDepth 100000 in
theorem refMax_any (v m : Int) (w : World) (h : smay v m = true) :
    Calls Try.prog 69 #[.int .i64 v, .int .i64 m] w fun e w' => e = .returned (.int .i64 (sround v m)) ∧ w = w' := by
  obtain ⟨h1, h2, h3, h4⟩ := smay_iff.1 h
  have ha := Lib.hid (rbest_all h1 h3 h4)
  clear h h1
  go_enter Try.func69, Try.ntmps69
  go_wp2
  go_loop [5, 6] (fun b x => ∃ k : Nat, k ≤ 255 ∧ x = .int .i64 ((k : Int) + 1) ∧ b = .int .i64 (rbest v m k)) (fun _ x => 256 - (intOf x).toNat)
  case atStart => exact ⟨0, by omega, rfl, rfl⟩
  case round =>
    obtain ⟨k, hk, rfl, rfl⟩ := hrel
    have hb := rbest_range v m k
    by_cases hlt : k < 255
    · by_cases hc : rfar v m ((k : Int) + 1) ≤ rfar v m (rbest v m k)
      · have e := Lib.hid (show rbest v m (k + 1) = (k : Int) + 1 by rw [rbest, if_pos hc])
        go_wp2_with (go_at_call 95; refine (refFar_any _ _ _ _ h2 h3 h4 (by omega) (by omega)).mono ?_; rintro e w' ⟨rfl, rfl⟩)
        go_round
        case rel => exact ⟨k + 1, by omega, by go_num, by rw [e.out]⟩
        case measure => simp [intOf]; omega
      · have e := Lib.hid (show rbest v m (k + 1) = rbest v m k by rw [rbest, if_neg hc])
        go_wp2_with (go_at_call 95; refine (refFar_any _ _ _ _ h2 h3 h4 (by omega) (by omega)).mono ?_; rintro e w' ⟨rfl, rfl⟩)
        go_round
        case rel => exact ⟨k + 1, by omega, by go_num, by rw [e.out]⟩
        case measure => simp [intOf]; omega
    · obtain rfl : k = 255 := by omega
      go_wp2
      go_ret
      exact ⟨ret1 (vint ha.out), rfl⟩

/-- so many bits' greatest sample -/
def pmax (n : Nat) : Int := (2 : Int) ^ n - 1

theorem two_pow_bounds (n : Nat) (h : n ≤ 32) : 1 ≤ (2 : Int) ^ n ∧ (2 : Int) ^ n ≤ 4294967296 := by
  have a : 2 ^ n ≤ 2 ^ 32 := Nat.pow_le_pow_right (by omega) h
  have b : 1 ≤ 2 ^ n := Nat.one_le_two_pow
  have c : (2 : Int) ^ n = ((2 ^ n : Nat) : Int) := by simp
  have d : (2 ^ 32 : Nat) = 4294967296 := rfl
  rw [c]
  omega

end Go.Proofs.Ytfgcbhcfekonnaa
