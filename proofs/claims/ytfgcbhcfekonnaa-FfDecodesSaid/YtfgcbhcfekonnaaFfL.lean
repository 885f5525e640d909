/- The law FfDecodes. -/
import Derived.Test.YtfgcbhcfekonnaaFfK
namespace Go.Proofs.Ytfgcbhcfekonnaa
open Go.RowKit
set_option linter.unusedVariables false
set_option linter.unusedSimpArgs false

theorem ffDecodes_wide {s : ByteArray} (hs : s.size ≤ 900) (u : 60 < (ffSides s).1 ∨ 60 < (ffSides s).2) (w : World) :
    Calls Try.prog 5 #[.string s] w fun e w' => e = .returned (.bool true) ∧ Below w.heap.size w w' := by
  have hsI : ¬ (900 : Int) < (s.size : Int) := by omega
  have HR := Lib.hid (fun w => refFfSides (s := s) (by omega) w)
  generalize (ffSides s).1 = W at u HR
  generalize (ffSides s).2 = H at u HR
  by_cases hW : 60 < W
  · have hWI : (60 : Int) < (W : Int) := by omega
    clear u hs hW
    go_enter Try.func5, Try.ntmps5
    go_wp2_with (first
      | (go_at_call 22; refine (HR.out _).mono ?_; rintro e w1 ⟨rfl, b1⟩)
      | (go_at_call 21; refine (awake27_any _).mono ?_; rintro e w2 ⟨rfl, b2⟩))
    go_ret
    exact ⟨rfl, below_next b1 b2⟩
  · have hWI : ¬ (60 : Int) < (W : Int) := by omega
    have hHI : (60 : Int) < (H : Int) := by omega
    clear u hs hW
    go_enter Try.func5, Try.ntmps5
    go_wp2_with (first
      | (go_at_call 22; refine (HR.out _).mono ?_; rintro e w1 ⟨rfl, b1⟩)
      | (go_at_call 21; refine (awake27_any _).mono ?_; rintro e w2 ⟨rfl, b2⟩))
    go_ret
    exact ⟨rfl, below_next b1 b2⟩
theorem ffPix_told_ways {s : ByteArray} {W H z : Nat} : ∀ n k, ((ffPix s W H z n k).told = .bad 1 s.size) ∨ ∃ l, (ffPix s W H z n k).told = .img W H l := by
  intro n
  induction n with
  | zero => intro k; exact .inr ⟨_, rfl⟩
  | succ n ih =>
    intro k
    by_cases hk : 16 + 8 * k + 8 ≤ s.size
    · rw [ffPix_told_yes hk]; exact ih _
    · exact .inl (ffPix_told_no hk)
theorem ffDecodes_said (w : World) (s : ByteArray) (hs : s.size ≤ maxLen) :
    Calls Try.prog 5 #[.string s] w fun e w' => e = .returned (.bool true) ∧ Below w.heap.size w w' := by
  by_cases hlen : s.size ≤ 900
  · by_cases u : 60 < (ffSides s).1 ∨ 60 < (ffSides s).2
    · exact ffDecodes_wide hlen u w
    · cases ffTold_is s with
      | short h t v => exact ffDecodes_bad hlen (by decide) (.inl v) t w
      | head h k a hk hh t v => exact ffDecodes_bad hlen hk (.inl v) t w
      | body h W H hh hW hH w1 w2 h1 h2 t v =>
        rw [v] at u
        have uW : W ≤ 60 := Nat.le_of_not_lt fun e => u (.inl e)
        have uH : H ≤ 60 := Nat.le_of_not_lt fun e => u (.inr e)
        rcases ffPix_told_ways (s := s) (W := W) (H := H) (z := 4 * (W * H)) (W * H) 0 with e | ⟨l, e⟩
        · exact ffDecodes_bad hlen (by decide) (.inr ⟨W, H, v, uW, uH⟩) (t.trans e) w
        · exact ffDecodes_img hlen h v ⟨w1, uW⟩ ⟨h1, uH⟩ (t.trans e) w
  · have hI : (900 : Int) < (s.size : Int) := by omega
    go_enter Try.func5, Try.ntmps5
    go_wp2_with (go_at_call 21; refine (awake27_any _).mono ?_; rintro e w2 ⟨rfl, b2⟩)
    go_ret
    exact ⟨rfl, b2⟩
end Go.Proofs.Ytfgcbhcfekonnaa
