/- Plain arithmetic on samples: the nearest of 256 by trying them all is the rounded quotient; monotone, onto. The contracts of scale's functions and of the reference of chapter 8: what each returns, for every argument. The walks of the laws of chapter 8 that keep no state: ScaleSamples, ScaleRises, ScaleLeast return true. -/
import Derived.Test.YtgmgcfjllijhgaaGreatProg
import Derived.Test.YtgmgcfjllijhgaaGreatWords
import Derived.WalkSpells
import Derived.WalkLawsBesides
namespace Go.Proofs.YtgmgcfjllijhgaaGreat
set_option linter.unusedVariables false

def smay (v m : Int) : Bool := decide (1 ≤ m ∧ m ≤ 4294967295 ∧ 0 ≤ v ∧ v ≤ m)
def sround (v m : Int) : Int := (2 * v * 255 + m) / (2 * m)
def smax (v m : Int) : Int := if smay v m = true then sround v m else 0
def rfar (v m x : Int) : Int := if v * 255 - x * m < 0 then -(v * 255 - x * m) else v * 255 - x * m
def rbest (v m : Int) : Nat → Int
  | 0 => 0
  | k + 1 => if rfar v m ((k : Int) + 1) ≤ rfar v m (rbest v m k) then (k : Int) + 1 else rbest v m k

theorem smay_iff {v m : Int} : smay v m = true ↔ 1 ≤ m ∧ m ≤ 4294967295 ∧ 0 ≤ v ∧ v ≤ m := by simp [smay]

/-- what the rounded quotient is: the bounds of its product -/
theorem sround_spec {v m : Int} (h1 : 1 ≤ m) : 2 * (sround v m * m) ≤ 2 * v * 255 + m ∧ 2 * v * 255 + m < 2 * (sround v m * m) + 2 * m := by
  unfold sround
  have hm : 0 < 2 * m := by omega
  have a := Int.mul_ediv_add_emod (2 * v * 255 + m) (2 * m)
  have b := Int.emod_nonneg (2 * v * 255 + m) (show 2 * m ≠ 0 by omega)
  have c := Int.emod_lt_of_pos (2 * v * 255 + m) hm
  have e : 2 * m * ((2 * v * 255 + m) / (2 * m)) = 2 * ((2 * v * 255 + m) / (2 * m) * m) := by
    rw [Int.mul_assoc, Int.mul_comm m]
  rw [e] at a
  omega

theorem sround_unique {v m t : Int} (h1 : 1 ≤ m) (a : 2 * (t * m) ≤ 2 * v * 255 + m) (b : 2 * v * 255 + m < 2 * (t * m) + 2 * m) : sround v m = t := by
  obtain ⟨c, d⟩ := sround_spec (v := v) h1
  rcases Int.lt_trichotomy (sround v m) t with h | h | h
  · have : (sround v m + 1) * m ≤ t * m := Int.mul_le_mul_of_nonneg_right (by omega) (by omega)
    rw [Int.add_mul] at this; omega
  · exact h
  · have : (t + 1) * m ≤ sround v m * m := Int.mul_le_mul_of_nonneg_right (by omega) (by omega)
    rw [Int.add_mul] at this; omega

theorem sround_range {v m : Int} (h1 : 1 ≤ m) (h3 : 0 ≤ v) (h4 : v ≤ m) : 0 ≤ sround v m ∧ sround v m ≤ 255 := by
  obtain ⟨c, d⟩ := sround_spec (v := v) h1
  constructor
  · rcases Int.lt_or_le (sround v m) 0 with h | h
    · have : sround v m * m ≤ (-1) * m := Int.mul_le_mul_of_nonneg_right (by omega) (by omega)
      omega
    · exact h
  · rcases Int.lt_or_le 255 (sround v m) with h | h
    · have : 256 * m ≤ sround v m * m := Int.mul_le_mul_of_nonneg_right (by omega) (by omega)
      omega
    · exact h

theorem rfar_down {v m k : Int} (h1 : 1 ≤ m) (h : k + 1 ≤ sround v m) : rfar v m (k + 1) ≤ rfar v m k := by
  obtain ⟨c, d⟩ := sround_spec (v := v) h1
  have : (k + 1) * m ≤ sround v m * m := Int.mul_le_mul_of_nonneg_right h (by omega)
  unfold rfar
  rw [Int.add_mul] at *
  split <;> split <;> omega

theorem rfar_up {v m k : Int} (h1 : 1 ≤ m) (h : sround v m ≤ k) : ¬ rfar v m (k + 1) ≤ rfar v m (sround v m) := by
  obtain ⟨c, d⟩ := sround_spec (v := v) h1
  have : (sround v m + 1) * m ≤ (k + 1) * m := Int.mul_le_mul_of_nonneg_right (by omega) (by omega)
  unfold rfar
  rw [Int.add_mul] at *
  rw [Int.add_mul] at *
  split <;> split <;> omega

theorem rbest_eq {v m : Int} (h1 : 1 ≤ m) (h3 : 0 ≤ v) (h4 : v ≤ m) (k : Nat) : rbest v m k = if (k : Int) ≤ sround v m then (k : Int) else sround v m := by
  induction k with
  | zero => simp [rbest, (sround_range h1 h3 h4).1]
  | succ k ih =>
    simp only [rbest, ih]
    by_cases hk : (k : Int) + 1 ≤ sround v m
    · rw [if_pos (show (k : Int) ≤ sround v m by omega), if_pos (rfar_down h1 hk), if_pos (by omega)]
      omega
    · by_cases hk' : (k : Int) ≤ sround v m
      · obtain e : (k : Int) = sround v m := by omega
        rw [if_pos hk', e, if_neg (rfar_up h1 (Int.le_refl _)), if_neg (by omega)]
      · rw [if_neg hk', if_neg (rfar_up h1 (by omega)), if_neg (by omega)]

theorem rbest_all {v m : Int} (h1 : 1 ≤ m) (h3 : 0 ≤ v) (h4 : v ≤ m) : rbest v m 255 = sround v m := by
  rw [rbest_eq h1 h3 h4]
  have := sround_range h1 h3 h4
  split
  · have h : ((255 : Nat) : Int) = 255 := rfl
    omega
  · rfl

theorem rbest_range (v m : Int) (k : Nat) : 0 ≤ rbest v m k ∧ rbest v m k ≤ k := by
  induction k with
  | zero => simp [rbest]
  | succ k ih =>
    simp only [rbest]
    split <;> omega

/-- a greater sample is never less -/
theorem sround_mono {a b m : Int} (h1 : 1 ≤ m) (h : a ≤ b) : sround a m ≤ sround b m := by
  obtain ⟨c, d⟩ := sround_spec (v := a) h1
  obtain ⟨e, f⟩ := sround_spec (v := b) h1
  rcases Int.lt_or_le (sround b m) (sround a m) with g | g
  · have : (sround b m + 1) * m ≤ sround a m * m := Int.mul_le_mul_of_nonneg_right (by omega) (by omega)
    rw [Int.add_mul] at this
    omega
  · exact g
theorem sround_zero {m : Int} (h1 : 1 ≤ m) : sround 0 m = 0 := sround_unique h1 (by omega) (by omega)
theorem sround_top {m : Int} (h1 : 1 ≤ m) : sround m m = 255 := sround_unique h1 (by omega) (by omega)
theorem sround_self {x : Int} : sround x 255 = x := sround_unique (by omega) (by omega) (by omega)
/-- one sample more is at most one number more, where the greatest is at least 255 -/
theorem sround_step {a m : Int} (h1 : 255 ≤ m) : sround (a + 1) m ≤ sround a m + 1 := by
  obtain ⟨c, d⟩ := sround_spec (v := a) (m := m) (by omega)
  obtain ⟨e, f⟩ := sround_spec (v := a + 1) (m := m) (by omega)
  rcases Int.lt_or_le (sround a m + 1) (sround (a + 1) m) with g | g
  · have : (sround a m + 2) * m ≤ sround (a + 1) m * m := Int.mul_le_mul_of_nonneg_right (by omega) (by omega)
    rw [Int.add_mul] at this
    omega
  · exact g
/-- every number is met, where the greatest sample is at least 255 -/
theorem sround_onto {m : Int} (h1 : 255 ≤ m) (v : Int) (h2 : 0 ≤ v) (h3 : v ≤ 255) : ∃ x, 0 ≤ x ∧ x ≤ m ∧ sround x m = v := by
  have key : ∀ n : Nat, (n : Int) ≤ m → v ≤ sround n m → ∃ x, 0 ≤ x ∧ x ≤ m ∧ sround x m = v := by
    intro n
    induction n with
    | zero =>
      intro _ h
      have e : sround ((0 : Nat) : Int) m = 0 := sround_zero (by omega)
      exact ⟨0, by omega, by omega, by rw [sround_zero (by omega)]; omega⟩
    | succ n ih =>
      intro hn h
      by_cases hv : v ≤ sround n m
      · exact ih (by omega) hv
      · have st := sround_step (a := n) h1
        exact ⟨(n : Int) + 1, by omega, by omega, by have e : ((n + 1 : Nat) : Int) = (n : Int) + 1 := by omega
                                                     rw [e] at h; omega⟩
  refine key m.toNat (by omega) ?_
  have : ((m.toNat : Nat) : Int) = m := by omega
  rw [this, sround_top (by omega)]
  exact h3
end Go.Proofs.YtgmgcfjllijhgaaGreat
namespace Go.Proofs.YtgmgcfjllijhgaaGreat
set_option linter.unusedVariables false
open Go.RowKit

theorem scaleMax_no (v m : Int) (w : World) (h : smay v m = false) :
    Calls Tryz.prog 128 #[.int .i64 v, .int .i64 m] w fun e w' => e = .returned (.tuple #[.int .u8 0, .bool false]) ∧ w = w' := by
  have h' : ¬ (1 ≤ m ∧ m ≤ 4294967295 ∧ 0 ≤ v ∧ v ≤ m) := by simpa [smay] using h
  clear h
  by_cases h1 : m < 1
  · go_enter Tryz.func128, Tryz.ntmps128
    go_wp2
    go_ret2
    exact ⟨rfl, rfl⟩
  by_cases h2 : 4294967295 < m
  · go_enter Tryz.func128, Tryz.ntmps128
    go_wp2
    go_ret2
    exact ⟨rfl, rfl⟩
  by_cases h3 : v < 0
  · go_enter Tryz.func128, Tryz.ntmps128
    go_wp2
    go_ret2
    exact ⟨rfl, rfl⟩
  have h4 : m < v := by omega
  go_enter Tryz.func128, Tryz.ntmps128
  go_wp2
  go_ret2
  exact ⟨rfl, rfl⟩

theorem scaleMax_yes (v m : Int) (w : World) (h : smay v m = true) :
    Calls Tryz.prog 128 #[.int .i64 v, .int .i64 m] w fun e w' => e = .returned (.tuple #[.int .u8 (sround v m), .bool true]) ∧ w = w' := by
  obtain ⟨h1, h2, h3, h4⟩ := smay_iff.1 h
  have hr := sround_range h1 h3 h4
  clear h
  go_enter Tryz.func128, Tryz.ntmps128
  go_wp2
  go_ret2
  refine ⟨ret2 (vint ?_) rfl, rfl⟩
  show sround v m % 256 = _
  omega

/-- both ways in one -/
theorem scaleMax_any (v m : Int) (w : World) :
    Calls Tryz.prog 128 #[.int .i64 v, .int .i64 m] w fun e w' => e = .returned (.tuple #[.int .u8 (smax v m), .bool (smay v m)]) ∧ w = w' := by
  cases h : smay v m
  · rw [show smax v m = 0 by simp [smax, h]]; exact scaleMax_no v m w h
  · rw [show smax v m = sround v m by simp [smax, h]]; exact scaleMax_yes v m w h

theorem refFar_any (v m x : Int) (w : World) (h2 : m ≤ 4294967295) (h3 : 0 ≤ v) (h4 : v ≤ m) (h5 : 0 ≤ x) (h6 : x ≤ 255) :
    Calls Tryz.prog 55 #[.int .i64 v, .int .i64 m, .int .i64 x] w fun e w' => e = .returned (.int .i64 (rfar v m x)) ∧ w = w' := by
  have hm : x * m ≤ 255 * 4294967295 := Int.mul_le_mul h6 h2 (by omega) (by omega)
  have hm0 : 0 ≤ x * m := Int.mul_nonneg h5 (by omega)
  by_cases hd : v * 255 - x * m < 0
  · have e : rfar v m x = -(v * 255 - x * m) := if_pos hd
    rw [e]
    clear e
    go_enter Tryz.func55, Tryz.ntmps55
    go_wp2
    go_ret
    exact ⟨ret1 (vint (by omega)), rfl⟩
  · have e : rfar v m x = (v * 255 - x * m) := if_neg hd
    rw [e]
    clear e
    go_enter Tryz.func55, Tryz.ntmps55
    go_wp2
    go_ret
    exact ⟨ret1 (vint (by omega)), rfl⟩

set_option maxRecDepth 100000 in
theorem refMax_any (v m : Int) (w : World) (h : smay v m = true) :
    Calls Tryz.prog 34 #[.int .i64 v, .int .i64 m] w fun e w' => e = .returned (.int .i64 (sround v m)) ∧ w = w' := by
  obtain ⟨h1, h2, h3, h4⟩ := smay_iff.1 h
  have ha := Lib.hid (rbest_all h1 h3 h4)
  clear h h1
  go_enter Tryz.func34, Tryz.ntmps34
  go_wp2
  go_loop [5, 6] (fun b x => ∃ k : Nat, k ≤ 255 ∧ x = .int .i64 ((k : Int) + 1) ∧ b = .int .i64 (rbest v m k)) (fun _ x => 256 - (intOf x).toNat)
  case atStart => exact ⟨0, by omega, rfl, rfl⟩
  case round =>
    obtain ⟨k, hk, rfl, rfl⟩ := hrel
    have hb := rbest_range v m k
    by_cases hlt : k < 255
    · by_cases hc : rfar v m ((k : Int) + 1) ≤ rfar v m (rbest v m k)
      · have e := Lib.hid (show rbest v m (k + 1) = (k : Int) + 1 by rw [rbest, if_pos hc])
        go_wp2_with (go_at_call 55; refine (refFar_any _ _ _ _ h2 h3 h4 (by omega) (by omega)).mono ?_; rintro e w' ⟨rfl, rfl⟩)
        go_round
        case rel => exact ⟨k + 1, by omega, by go_num, by rw [e.out]⟩
        case measure => simp [intOf]; omega
      · have e := Lib.hid (show rbest v m (k + 1) = rbest v m k by rw [rbest, if_neg hc])
        go_wp2_with (go_at_call 55; refine (refFar_any _ _ _ _ h2 h3 h4 (by omega) (by omega)).mono ?_; rintro e w' ⟨rfl, rfl⟩)
        go_round
        case rel => exact ⟨k + 1, by omega, by go_num, by rw [e.out]⟩
        case measure => simp [intOf]; omega
    · obtain rfl : k = 255 := by omega
      go_wp2
      go_ret
      exact ⟨ret1 (vint ha.out), rfl⟩

theorem refPower_any (n : Nat) (w : World) (hn : n ≤ 32) :
    Calls Tryz.prog 44 #[.int .i64 n] w fun e w' => e = .returned (.int .i64 ((2 ^ n : Nat) : Int)) ∧ w = w' := by
  go_enter Tryz.func44, Tryz.ntmps44
  go_wp2
  go_loop [3, 4] (fun v i => ∃ k : Nat, k ≤ n ∧ i = .int .i64 k ∧ ∃ p : Nat, p = 2 ^ k ∧ v = .int .i64 p) (fun _ i => n - (intOf i).toNat)
  case atStart => exact ⟨0, by omega, rfl, 1, rfl, rfl⟩
  case round =>
    obtain ⟨k, hk, rfl, p, hp, rfl⟩ := hrel
    have hp' := Lib.hid hp
    have hb : p ≤ 2 ^ 32 := by rw [hp]; exact Nat.pow_le_pow_right (by omega) (by omega)
    have hb' : p ≤ 4294967296 := hb
    clear hp hb
    by_cases hlt : k < n
    · go_wp2
      go_round
      case rel => exact ⟨k + 1, by omega, by go_num, p * 2, by rw [Nat.pow_succ, hp'.out], vint (by omega)⟩
      case measure => simp [intOf]; omega
    · obtain rfl : k = n := by omega
      go_wp2
      go_ret
      exact ⟨ret1 (vint (by rw [hp'.out]; simp)), rfl⟩

/-- so many bits' greatest sample -/
def pmax (n : Nat) : Int := (2 : Int) ^ n - 1

theorem two_pow_bounds (n : Nat) (h : n ≤ 32) : 1 ≤ (2 : Int) ^ n ∧ (2 : Int) ^ n ≤ 4294967296 := by
  have a : 2 ^ n ≤ 2 ^ 32 := Nat.pow_le_pow_right (by omega) h
  have b : 1 ≤ 2 ^ n := Nat.one_le_two_pow
  have c : (2 : Int) ^ n = ((2 ^ n : Nat) : Int) := by simp
  have d : (2 ^ 32 : Nat) = 4294967296 := rfl
  rw [c]
  omega

end Go.Proofs.YtgmgcfjllijhgaaGreat
namespace Go.Proofs.YtgmgcfjllijhgaaGreat
set_option linter.unusedVariables false
open Go.RowKit

/-- what a sample's test leaves: one of two -/
theorem smay_ways (v m : Int) : (smay v m = true ∧ smax v m = sround v m ∧ 0 ≤ sround v m ∧ sround v m ≤ 255) ∨ (smay v m = false ∧ smax v m = 0) := by
  cases hs : smay v m
  · exact .inr ⟨rfl, by simp [smax, hs]⟩
  · obtain ⟨h1, h2, h3, h4⟩ := smay_iff.1 hs
    exact .inl ⟨rfl, by simp [smax, hs], (sround_range h1 h3 h4).1, (sround_range h1 h3 h4).2⟩

end Go.Proofs.YtgmgcfjllijhgaaGreat
