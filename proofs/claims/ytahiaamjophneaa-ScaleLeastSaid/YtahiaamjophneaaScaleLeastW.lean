/- scale.Least by its contract, and the walk of ScaleLeast. -/
import Derived.Test.YtahiaamjophneaaScaleWalks
import Derived.OpenShut
namespace Go.Proofs.Ytahiaamjophneaa
set_option linter.unusedVariables false
open Go.RowKit

/-- x is the least sample that is told as at least v -/
structure Lst (v m x : Int) : Prop where
  lo : 0 ≤ x
  hi : x ≤ m
  less : ∀ y, 0 ≤ y → y < x → sround y m < v
  there : v ≤ sround x m

theorem Lst.of_le {v m x y : Int} (h1 : 1 ≤ m) (h : Lst v m x) (hy : x ≤ y) : v ≤ sround y m := Int.le_trans h.there (sround_mono h1 hy)

theorem exists_lst {v m : Int} (h1 : 1 ≤ m) (h2 : v ≤ 255) : ∃ x, Lst v m x := by
  have key : ∀ n : Nat, (n : Int) ≤ m → v ≤ sround n m → ∃ x, Lst v m x := by
    intro n
    induction n with
    | zero => exact fun h h' => ⟨0, by omega, by omega, fun y a b => by omega, h'⟩
    | succ n ih =>
      intro h h'
      by_cases hv : v ≤ sround n m
      · exact ih (by omega) hv
      · refine ⟨((n + 1 : Nat) : Int), by omega, h, fun y a b => ?_, h'⟩
        have := sround_mono (a := y) (b := n) h1 (by omega)
        omega
  refine key m.toNat (by omega) ?_
  have e : ((m.toNat : Nat) : Int) = m := by omega
  rw [e, sround_top h1]
  exact h2

theorem scaleLeast_out (v m : Int) (w : World) (h : m < 1 ∨ 4294967295 < m) :
    Calls Try.prog 29 #[.int .u8 v, .int .i64 m] w fun e w' => e = .returned (.tuple #[.int .i64 0, .bool false]) ∧ w = w' := by
  rcases h with h | h
  all_goals
    go_enter Try.func29, Try.ntmps29
    go_wp2_with fail
    go_ret2
    exact ⟨rfl, rfl⟩

set_option maxRecDepth 100000 in
theorem scaleLeast_in (v m x : Int) (b : Bool) (w : World) (h1 : 1 ≤ m) (h2 : m ≤ 4294967295) (hx : Lst v m x) (hb : (sround x m == v) = b) :
    Calls Try.prog 29 #[.int .u8 v, .int .i64 m] w fun e w' => e = .returned (.tuple #[.int .i64 (if b = true then x else 0), .bool b]) ∧ w = w' := by
  have q1 := hx.lo
  have q2 := hx.hi
  go_enter Try.func29, Try.ntmps29
  go_wp2_with fail
  go_loop [6, 7] (fun l h => ∃ lo hi : Int, 0 ≤ lo ∧ lo ≤ x ∧ x ≤ hi ∧ hi ≤ m ∧ l = .int .i64 lo ∧ h = .int .i64 hi) (fun l h => (intOf h - intOf l).toNat)
  case atStart => exact ⟨0, m, by omega, by omega, by omega, by omega, rfl, rfl⟩
  case round =>
    obtain ⟨lo, hi, r1, r2, r3, r4, rfl, rfl⟩ := hrel
    by_cases hlt : lo < hi
    · have m1 : lo ≤ (lo + hi) / 2 := by omega
      have m2 : (lo + hi) / 2 < hi := by omega
      by_cases hc : sround ((lo + hi) / 2) m < v
      · have m3 : (lo + hi) / 2 < x := by
          rcases Int.lt_or_le ((lo + hi) / 2) x with g | g
          · exact g
          · have := hx.of_le h1 g; omega
        have hr := sround_range (v := (lo + hi) / 2) h1 (by omega) (by omega)
        go_wp2_with (go_at_call 17; refine (scaleMax_yes _ _ _ (smay_iff.2 ⟨by omega, by omega, by omega, by omega⟩)).mono ?_; rintro e w' ⟨rfl, rfl⟩)
        go_round
        case rel => exact ⟨(lo + hi) / 2 + 1, hi, by omega, by omega, by omega, by omega, rfl, rfl⟩
        case measure => simp [intOf]; omega
      · have m3 : x ≤ (lo + hi) / 2 := by
          rcases Int.lt_or_le ((lo + hi) / 2) x with g | g
          · have := hx.less _ (by omega) g; omega
          · exact g
        have hr := sround_range (v := (lo + hi) / 2) h1 (by omega) (by omega)
        go_wp2_with (go_at_call 17; refine (scaleMax_yes _ _ _ (smay_iff.2 ⟨by omega, by omega, by omega, by omega⟩)).mono ?_; rintro e w' ⟨rfl, rfl⟩)
        go_round
        case rel => exact ⟨lo, (lo + hi) / 2, by omega, by omega, by omega, by omega, rfl, rfl⟩
        case measure => simp [intOf]; omega
    · obtain rfl : lo = x := by omega
      have hr := sround_range (v := lo) h1 (by omega) (by omega)
      cases b
      · have hb' : (sround lo m != v) = true := by simpa [bne] using hb
        clear hb
        go_wp2_with (go_at_call 17; refine (scaleMax_yes _ _ _ (smay_iff.2 ⟨by omega, by omega, by omega, by omega⟩)).mono ?_; rintro e w' ⟨rfl, rfl⟩)
        go_ret2
        exact ⟨rfl, rfl⟩
      · have hb' : (sround lo m != v) = false := by simpa [bne] using hb
        clear hb
        go_wp2_with (go_at_call 17; refine (scaleMax_yes _ _ _ (smay_iff.2 ⟨by omega, by omega, by omega, by omega⟩)).mono ?_; rintro e w' ⟨rfl, rfl⟩)
        go_ret2
        exact ⟨rfl, rfl⟩

set_option maxRecDepth 100000 in
theorem scaleLeast_walk (v m : Int) (w : World) (v1 : 0 ≤ v) (v2 : v ≤ 255) :
    Calls Try.prog 7 #[.int .u8 v, .int .i64 m] w fun e w' => e = .returned (.bool true) ∧ w = w' := by
  by_cases hm : m < 1 ∨ 4294967295 < m
  · go_enter Try.func7, Try.ntmps7
    go_wp2_with (first | (go_at_call 29; refine (scaleLeast_out _ _ _ hm).mono ?_; rintro e w' ⟨rfl, rfl⟩) | (go_at_call 21; refine (scaleAwake _).mono ?_; rintro e w' ⟨rfl, rfl⟩))
    all_goals go_ret
    all_goals exact ⟨rfl, rfl⟩
  · have h1 : 1 ≤ m := by omega
    have h2 : m ≤ 4294967295 := by omega
    clear hm
    obtain ⟨x, hx⟩ := exists_lst h1 v2
    have q1 := hx.lo
    have q2 := hx.hi
    cases hb : (sround x m == v)
    · have none : ∀ y, 0 ≤ y → y ≤ m → sround y m ≠ v := by
        intro y y1 y2 e
        have hb' : sround x m ≠ v := by simpa using hb
        rcases Int.lt_or_le y x with g | g
        · have := hx.less y y1 g; omega
        · have := sround_mono h1 g
          have := hx.there
          omega
      have small : m ≤ 3000 := by
        rcases Int.lt_or_le m 255 with g | g
        · omega
        · obtain ⟨y, y1, y2, y3⟩ := sround_onto g v v1 v2
          exact absurd y3 (none y y1 y2)
      have Hb := Lib.hid hb
      have Hn := Lib.hid none
      clear hb none
      go_enter Try.func7, Try.ntmps7
      go_wp2_with fail
      refine (scaleLeast_in v m x false _ h1 h2 hx Hb.out).mono ?_
      rintro e w' ⟨rfl, rfl⟩
      go_wp2_with fail
      go_loop [7] (fun x => ∃ k : Nat, (k : Int) ≤ m + 1 ∧ x = .int .i64 k) (fun x => m.toNat + 1 - (intOf x).toNat)
      case atStart => exact ⟨0, by omega, rfl⟩
      case round =>
        obtain ⟨k, hk, rfl⟩ := hrel
        by_cases hlt : (k : Int) ≤ m
        · have hr := sround_range (v := (k : Int)) h1 (by omega) (by omega)
          have hne : (sround (k : Int) m == v) = false := by simpa using Hn.out k (by omega) hlt
          go_wp2_with (go_at_call 19; refine (refMax_any _ _ _ (smay_iff.2 ⟨by omega, by omega, by omega, by omega⟩)).mono ?_; rintro e w' ⟨rfl, rfl⟩)
          go_round
          case rel => exact ⟨k + 1, by omega, by go_num⟩
          case measure => simp [intOf]; omega
        · go_wp2_with (go_at_call 21; refine (scaleAwake _).mono ?_; rintro e w' ⟨rfl, rfl⟩)
          go_ret
          exact ⟨rfl, rfl⟩
    · have hr := sround_range (v := x) h1 (by omega) (by omega)
      by_cases h0 : x = 0
      · subst h0
        have Hb := Lib.hid hb
        go_enter Try.func7, Try.ntmps7
        go_wp2_with fail
        refine (scaleLeast_in v m 0 true _ h1 h2 hx Hb.out).mono ?_
        rintro e w' ⟨rfl, rfl⟩
        go_wp2_with (first | (go_at_call 19; refine (refMax_any _ _ _ (smay_iff.2 ⟨by omega, by omega, by omega, by omega⟩)).mono ?_; rintro e w' ⟨rfl, rfl⟩) | (go_at_call 21; refine (scaleAwake _).mono ?_; rintro e w' ⟨rfl, rfl⟩))
        all_goals go_ret
        all_goals exact ⟨rfl, rfl⟩
      · have h0' : (x == 0) = false := by simpa using h0
        have hl := hx.less (x - 1) (by omega) (by omega)
        have Hb := Lib.hid hb
        go_enter Try.func7, Try.ntmps7
        go_wp2_with fail
        refine (scaleLeast_in v m x true _ h1 h2 hx Hb.out).mono ?_
        rintro e w' ⟨rfl, rfl⟩
        go_wp2_with (first | (go_at_call 19; refine (refMax_any _ _ _ (smay_iff.2 ⟨by omega, by omega, by omega, by omega⟩)).mono ?_; rintro e w' ⟨rfl, rfl⟩) | (go_at_call 21; refine (scaleAwake _).mono ?_; rintro e w' ⟨rfl, rfl⟩))
        all_goals go_ret
        all_goals exact ⟨rfl, rfl⟩

theorem scaleLeast_said (W : World) (v : Int) (hv : (Lit.int .u8 v).wf = true) (m : Int) (_ : (Lit.int .i64 m).wf = true) :
    Calls Try.prog 7 #[.int .u8 v, .int .i64 m] W fun e w' => e = .returned (.bool true) ∧ Below W.heap.size W w' :=
  (scaleLeast_walk v m W (bounds_u8 hv).1 (bounds_u8 hv).2).mono fun _ _ ⟨he, hw⟩ => ⟨he, hw ▸ Below.refl _ _⟩
end Go.Proofs.Ytahiaamjophneaa
