/- The walks of the laws of chapter 8 that keep no state: ScaleSamples, ScaleRises, ScaleLeast return true. -/
import Derived.Test.YtahiaamjophneaaScale
import Derived.WalkSpells
import Derived.WalkLawsBesides
namespace Go.Proofs.Ytahiaamjophneaa
set_option linter.unusedVariables false
open Go.RowKit

/-- what a sample's test leaves: one of two -/
theorem smay_ways (v m : Int) : (smay v m = true ∧ smax v m = sround v m ∧ 0 ≤ sround v m ∧ sround v m ≤ 255) ∨ (smay v m = false ∧ smax v m = 0) := by
  cases hs : smay v m
  · exact .inr ⟨rfl, by simp [smax, hs]⟩
  · obtain ⟨h1, h2, h3, h4⟩ := smay_iff.1 hs
    exact .inl ⟨rfl, by simp [smax, hs], (sround_range h1 h3 h4).1, (sround_range h1 h3 h4).2⟩

theorem scaleSamples_walk (v m n : Int) (w : World) :
    Calls Try.prog 3 #[.int .i64 v, .int .i64 m, .int .i64 n] w fun e w' => e = .returned (.bool true) ∧ w = w' := by
  by_cases hn : n < 1 ∨ 32 < n
  · rcases smay_ways v m with ⟨hs, ht, h5, h6⟩ | ⟨hs, ht⟩
    all_goals
      go_enter Try.func3, Try.ntmps3
      go_wp2_with (first | (go_at_call 17; refine (scaleMax_any _ _ _).mono ?_; rintro e w' ⟨rfl, rfl⟩) | (go_at_call 18; refine (refMay_any _ _ _).mono ?_; rintro e w' ⟨rfl, rfl⟩) | (go_at_call 19; refine (refMax_any _ _ _ (by assumption)).mono ?_; rintro e w' ⟨rfl, rfl⟩) | (go_at_call 20; refine (scaleBits_no _ _ _ hn).mono ?_; rintro e w' ⟨rfl, rfl⟩) | (go_at_call 21; refine (scaleAwake _).mono ?_; rintro e w' ⟨rfl, rfl⟩))
      all_goals go_ret
      all_goals exact ⟨rfl, rfl⟩
  · obtain ⟨k, rfl⟩ := Int.eq_ofNat_of_zero_le (show 0 ≤ n by omega)
    have hk1 : 1 ≤ k := by omega
    have hk2 : k ≤ 32 := by omega
    obtain ⟨b1, b2⟩ := two_pow_bounds k hk2
    clear hn
    rcases smay_ways v m with ⟨hs, ht, h5, h6⟩ | ⟨hs, ht⟩
    all_goals
      rcases smay_ways v (pmax k) with ⟨hz, hy, h7, h8⟩ | ⟨hz, hy⟩
      all_goals
        rw [pmax] at hz hy
        try rw [pmax] at h7 h8
        go_enter Try.func3, Try.ntmps3
        go_wp2_with (first | (go_at_call 17; refine (scaleMax_any _ _ _).mono ?_; rintro e w' ⟨rfl, rfl⟩) | (go_at_call 18; refine (refMay_any _ _ _).mono ?_; rintro e w' ⟨rfl, rfl⟩) | (go_at_call 19; refine (refMax_any _ _ _ (by assumption)).mono ?_; rintro e w' ⟨rfl, rfl⟩) | (go_at_call 20; refine (scaleBits_yes _ _ _ hk1 hk2).mono ?_; rintro e w' ⟨rfl, rfl⟩) | (go_at_call 22; refine (refPower_any _ _ hk2).mono ?_; rintro e w' ⟨rfl, rfl⟩) | (go_at_call 21; refine (scaleAwake _).mono ?_; rintro e w' ⟨rfl, rfl⟩))
        all_goals go_ret
        all_goals exact ⟨rfl, rfl⟩
theorem scaleSamples_said (W : World) (v : Int) (_ : (Lit.int .i64 v).wf = true) (m : Int) (_ : (Lit.int .i64 m).wf = true) (n : Int) (_ : (Lit.int .i64 n).wf = true) :
    Calls Try.prog 3 #[.int .i64 v, .int .i64 m, .int .i64 n] W fun e w' => e = .returned (.bool true) ∧ Below W.heap.size W w' :=
  (scaleSamples_walk v m n W).mono fun _ _ ⟨he, hw⟩ => ⟨he, hw ▸ Below.refl _ _⟩
end Go.Proofs.Ytahiaamjophneaa
