/- The walk of SunPacks. -/
import Derived.Test.YtahiaamjophneaaSunPack
namespace Go.Proofs.Ytahiaamjophneaa
open Go.RowKit
set_option linter.unusedVariables false

theorem sunAwake (w : World) :
    Calls Try.prog 26 #[] w fun e w' => e = .returned (.bool true) ∧ Below w.heap.size w w' := by
  have e1 := Lib.hid sunPack_awake
  go_enter Try.func26, Try.ntmps26
  go_wp2_with fail
  refine (sunPack_any _ _ (by decide)).mono ?_
  rintro e w1 ⟨rfl, hb⟩
  rw [e1.out]
  go_wp2_with fail
  go_ret
  exact ⟨ret1 (vbool (by decide +kernel)), hb⟩

theorem sunPacks_said (w : World) (s : ByteArray) (hs : s.size ≤ maxLen) :
    Calls Try.prog 6 #[.string s] w fun e w' => e = .returned (.bool true) ∧ Below w.heap.size w w' := by
  unfold maxLen at hs
  by_cases h : (900 : Int) < (s.size : Int)
  · go_enter Try.func6, Try.ntmps6
    go_wp2_with (go_at_call 26; refine (sunAwake _).mono ?_; rintro e w1 ⟨rfl, hb⟩)
    go_ret
    exact ⟨rfl, hb⟩
  · go_enter Try.func6, Try.ntmps6
    go_wp2_with fail
    refine (sunPack_any _ _ (by omega)).mono ?_
    rintro e w1 ⟨rfl, hb1⟩
    go_wp2_with fail
    refine (sunRef_any _ _ (by omega)).mono ?_
    rintro e w2 ⟨rfl, hb2⟩
    have hb2' := hb1.trans (hb2.mono hb1.size)
    go_wp2_with (go_at_call 26; refine (sunAwake _).mono ?_; rintro e w3 ⟨rfl, hb3⟩)
    go_ret
    exact ⟨rfl, hb2'.trans (hb3.mono hb2'.size)⟩
end Go.Proofs.Ytahiaamjophneaa
