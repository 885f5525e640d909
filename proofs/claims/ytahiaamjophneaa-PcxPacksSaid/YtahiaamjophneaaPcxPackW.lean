/- The walk of PcxPacks. -/
import Derived.Test.YtahiaamjophneaaPcxPack
namespace Go.Proofs.Ytahiaamjophneaa
open Go.RowKit
set_option linter.unusedVariables false

theorem pcxAwake (w : World) :
    Calls Try.prog 23 #[] w fun e w' => e = .returned (.bool true) ∧ Below w.heap.size w w' := by
  have e1 := Lib.hid pcxPack_awake
  go_enter Try.func23, Try.ntmps23
  go_wp2_with fail
  refine (pcxPack_any _ _ (by decide)).mono ?_
  rintro e w1 ⟨rfl, hb⟩
  rw [e1.out]
  go_wp2_with fail
  go_ret
  exact ⟨ret1 (vbool (by decide +kernel)), hb⟩

theorem pcxPacks_said (w : World) (s : ByteArray) (hs : s.size ≤ maxLen) :
    Calls Try.prog 5 #[.string s] w fun e w' => e = .returned (.bool true) ∧ Below w.heap.size w w' := by
  unfold maxLen at hs
  by_cases h : (600 : Int) < (s.size : Int)
  · go_enter Try.func5, Try.ntmps5
    go_wp2_with (go_at_call 23; refine (pcxAwake _).mono ?_; rintro e w1 ⟨rfl, hb⟩)
    go_ret
    exact ⟨rfl, hb⟩
  · have hl : (strOf (pcxPack s.data.toList)).size ≤ 2 * s.size := by
      have := pcxPack_len _ s.data.toList (Nat.le_refl _)
      rw [list_len] at this
      rw [strOf_size]
      omega
    go_enter Try.func5, Try.ntmps5
    go_wp2_with fail
    refine (pcxPack_any _ _ (by omega)).mono ?_
    rintro e w1 ⟨rfl, hb1⟩
    go_wp2_with fail
    refine (pcxRef_any _ _ (by omega)).mono ?_
    rintro e w2 ⟨rfl, hb2⟩
    have hb2' := hb1.trans (hb2.mono hb1.size)
    go_wp2_with (go_at_call 23; refine (pcxAwake _).mono ?_; rintro e w3 ⟨rfl, hb3⟩)
    go_ret
    exact ⟨rfl, hb2'.trans (hb3.mono hb2'.size)⟩
end Go.Proofs.Ytahiaamjophneaa
