/- The walk of ScaleRises. -/
import Derived.Test.YtahiaamjophneaaScaleWalks
import Derived.Deep.QuietTactic
import Derived.BigQuiet
import Derived.OpenShut
namespace Go.Proofs.Ytahiaamjophneaa
set_option linter.unusedVariables false
open Go.RowKit

theorem scaleMax_in (v m : Int) (w : World) (h1 : 1 ≤ m) (h2 : m ≤ 4294967295) (h3 : 0 ≤ v) (h4 : v ≤ m) :
    Calls Try.prog 17 #[.int .i64 v, .int .i64 m] w fun e w' => e = .returned (.tuple #[.int .u8 (sround v m), .bool true]) ∧ w = w' :=
  scaleMax_yes v m w (smay_iff.2 ⟨h1, h2, h3, h4⟩)

theorem scaleRises_walk (v w m x : Int) (W : World) (v1 : 0 ≤ v) (v2 : v ≤ 4294967295) (w1 : 0 ≤ w) (w2 : w ≤ 4294967295) (m1 : 0 ≤ m) (m2 : m ≤ 4294967295) (x1 : 0 ≤ x) (x2 : x ≤ 255) :
    Calls Try.prog 4 #[.int .u32 v, .int .u32 w, .int .u32 m, .int .u8 x] W fun e w' => e = .returned (.bool true) ∧ Below W.heap.size W w' := by
  by_cases hm : m = 0
  · subst hm
    go_enter Try.func4, Try.ntmps4
    go_wp2_with (go_at_call 21; refine (scaleAwake _).mono ?_; rintro e w' ⟨rfl, rfl⟩)
    go_ret
    exact ⟨rfl, Below.refl _ _⟩
  · have hm' : (m == 0) = false := by simpa using hm
    have hm3 : 0 < m := by omega
    have a1 := Int.emod_nonneg v hm
    have a2 := Int.emod_lt_of_pos v hm3
    have b1 := Int.emod_nonneg w hm
    have b2 := Int.emod_lt_of_pos w hm3
    have a3 : v.tmod m = v % m := Int.tmod_eq_emod_of_nonneg v1
    have b3 : w.tmod m = w % m := Int.tmod_eq_emod_of_nonneg w1
    have c1 : sround 0 m = 0 := sround_zero (by omega)
    have c2 : sround m m = 255 := sround_top (by omega)
    have c3 : sround x 255 = x := sround_self
    by_cases hvw : v % m ≤ w % m
    · have c4 : sround (v % m) m ≤ sround (w % m) m := sround_mono (by omega) hvw
      go_enter Try.func4, Try.ntmps4
      go_wp2_with fail
      go_quiet (fail)
      go_wp2_with (first | (go_at_call 17; refine (scaleMax_in _ _ _ (by omega) (by omega) (by omega) (by omega)).mono ?_; rintro e w' ⟨rfl, rfl⟩) | (go_at_call 21; refine (scaleAwake _).mono ?_; rintro e w' ⟨rfl, rfl⟩))
      all_goals go_ret
      all_goals exact ⟨rfl, below_drewN (Below.refl _ _) _⟩
    · have c4 : sround (w % m) m ≤ sround (v % m) m := sround_mono (by omega) (by omega)
      go_enter Try.func4, Try.ntmps4
      go_wp2_with fail
      go_quiet (fail)
      go_wp2_with (first | (go_at_call 17; refine (scaleMax_in _ _ _ (by omega) (by omega) (by omega) (by omega)).mono ?_; rintro e w' ⟨rfl, rfl⟩) | (go_at_call 21; refine (scaleAwake _).mono ?_; rintro e w' ⟨rfl, rfl⟩))
      all_goals go_ret
      all_goals exact ⟨rfl, below_drewN (Below.refl _ _) _⟩

theorem scaleRises_said (W : World) (v : Int) (hv : (Lit.int .u32 v).wf = true) (w : Int) (hw : (Lit.int .u32 w).wf = true) (m : Int) (hm : (Lit.int .u32 m).wf = true) (x : Int) (hx : (Lit.int .u8 x).wf = true) :
    Calls Try.prog 4 #[.int .u32 v, .int .u32 w, .int .u32 m, .int .u8 x] W fun e w' => e = .returned (.bool true) ∧ Below W.heap.size W w' := by
  exact scaleRises_walk v w m x W (bounds_u32 hv).1 (bounds_u32 hv).2 (bounds_u32 hw).1 (bounds_u32 hw).2 (bounds_u32 hm).1 (bounds_u32 hm).2 (bounds_u8 hx).1 (bounds_u8 hx).2
end Go.Proofs.Ytahiaamjophneaa
