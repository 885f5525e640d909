/- An image: is it right? -/
import Derived.Test.YtfgcbhcfekonnaaRas
namespace Go.Proofs.Ytfgcbhcfekonnaa
open Go.RowKit
set_option linter.unusedVariables false
set_option linter.unusedSimpArgs false

def RightP (W H : Int) (n : Nat) : Prop := (1 ≤ W ∧ W ≤ 16384) ∧ (1 ≤ H ∧ H ≤ 16384) ∧ (n : Int) = 4 * W * H
instance (W H : Int) (n : Nat) : Decidable (RightP W H n) := by unfold RightP; infer_instance
theorem img_prod {W H : Int} (hW : 1 ≤ W ∧ W ≤ 16384) (hH : 1 ≤ H ∧ H ≤ 16384) : IntKind.i64.wrap (4 * W * H) = 4 * W * H := by
  obtain ⟨a, rfl⟩ := Int.eq_ofNat_of_zero_le (show 0 ≤ W by omega)
  obtain ⟨b, rfl⟩ := Int.eq_ofNat_of_zero_le (show 0 ≤ H by omega)
  have h : a * b ≤ 16384 * 16384 := Nat.mul_le_mul (by omega) (by omega)
  have e : 4 * (a : Int) * (b : Int) = 4 * ((a * b : Nat) : Int) := by rw [Int.mul_assoc, Int.natCast_mul]
  rw [e]
  exact IntWalk.i64_in _ (by omega)
theorem img_prod64 {W H : Int} (hW : 1 ≤ W ∧ W ≤ 16384) (hH : 1 ≤ H ∧ H ≤ 16384) : wrap64 (4 * W * H) = 4 * W * H := by
  obtain ⟨a, rfl⟩ := Int.eq_ofNat_of_zero_le (show 0 ≤ W by omega)
  obtain ⟨b, rfl⟩ := Int.eq_ofNat_of_zero_le (show 0 ≤ H by omega)
  have h : a * b ≤ 16384 * 16384 := Nat.mul_le_mul (by omega) (by omega)
  have e : 4 * (a : Int) * (b : Int) = 4 * ((a * b : Nat) : Int) := by rw [Int.mul_assoc, Int.natCast_mul]
  rw [e]
  unfold wrap64
  omega
theorem img_four {W : Int} (hW : 1 ≤ W ∧ W ≤ 16384) : wrap64 (4 * W) = 4 * W := by unfold wrap64; omega
set_option maxRecDepth 100000 in
theorem right_any (W H : Int) (a : Option Addr) (n c : Nat) (w : World) : Calls Try.prog 54 #[.agg #[.int .i64 W, .int .i64 H, .slice a n c]] w fun e w' => e = .returned (.bool (decide (RightP W H n))) ∧ Below w.heap.size w w' := by
  by_cases hW : 1 ≤ W ∧ W ≤ 16384
  · have S1 := Lib.hid (fun w => sideIs (n := W) (b := true) (decide_eq_true hW) w)
    by_cases hH : 1 ≤ H ∧ H ≤ 16384
    · have S2 := Lib.hid (fun w => sideIs (n := H) (b := true) (decide_eq_true hH) w)
      have HW1 := Lib.hid (img_four hW)
      have HW2 := Lib.hid (img_prod64 hW hH)
      obtain ⟨z, hz⟩ : ∃ z, z = 4 * W * H := ⟨_, rfl⟩
      have hd : decide (RightP W H n) = decide ((n : Int) = z) := by unfold RightP; rw [hz]; simp [hW, hH]
      rw [hd]
      by_cases hn : (n : Int) = z
      · rw [decide_eq_true hn]
        have HN := Lib.hid hn
        have HZ := Lib.hid hz
        have hnb : ((n : Int) == z) = true := by simpa using hn
        clear hz hd hW hH hn
        go_enter Try.func54, Try.ntmps54
        go_wp2_with (go_at_call 37; first | (have := k1; refine (S2.out _).mono ?_; rintro e w9 ⟨rfl, rfl⟩) | (refine (S1.out _).mono ?_; rintro e w9 ⟨rfl, rfl⟩; have k1 := trivial))
        go_ret
        exact ⟨ret1 (vbool (by first | rfl | (simp; done) | (simp [HW1.out, HW2.out]; rw [← HZ.out]; exact HN.out) | (simpa [HW1.out, HW2.out, HZ.out] using HN.out))), (Below.refl _ _).alloc (Nat.le_refl _) _⟩
      · rw [decide_eq_false hn]
        have HN := Lib.hid hn
        have HZ := Lib.hid hz
        have hnb : ((n : Int) == z) = false := by simpa using hn
        clear hz hd hW hH hn
        go_enter Try.func54, Try.ntmps54
        go_wp2_with (go_at_call 37; first | (have := k1; refine (S2.out _).mono ?_; rintro e w9 ⟨rfl, rfl⟩) | (refine (S1.out _).mono ?_; rintro e w9 ⟨rfl, rfl⟩; have k1 := trivial))
        go_ret
        exact ⟨ret1 (vbool (by first | rfl | (simp; done) | (simp [HW1.out, HW2.out]; rw [← HZ.out]; exact HN.out) | (simpa [HW1.out, HW2.out, HZ.out] using HN.out))), (Below.refl _ _).alloc (Nat.le_refl _) _⟩
    · have S2 := Lib.hid (fun w => sideIs (n := H) (b := false) (decide_eq_false hH) w)
      rw [decide_eq_false (fun q : RightP W H n => hH q.2.1)]
      clear hW hH
      go_enter Try.func54, Try.ntmps54
      go_wp2_with (go_at_call 37; first | (have := k1; refine (S2.out _).mono ?_; rintro e w9 ⟨rfl, rfl⟩) | (refine (S1.out _).mono ?_; rintro e w9 ⟨rfl, rfl⟩; have k1 := trivial))
      go_ret
      exact ⟨rfl, (Below.refl _ _).alloc (Nat.le_refl _) _⟩
  · have S1 := Lib.hid (fun w => sideIs (n := W) (b := false) (decide_eq_false hW) w)
    rw [decide_eq_false (fun q : RightP W H n => hW q.1)]
    clear hW
    go_enter Try.func54, Try.ntmps54
    go_wp2_with (go_at_call 37; refine (S1.out _).mono ?_; rintro e w9 ⟨rfl, rfl⟩)
    go_ret
    exact ⟨rfl, (Below.refl _ _).alloc (Nat.le_refl _) _⟩
set_option maxRecDepth 100000 in
theorem refRight_any (W H : Int) (a : Option Addr) (n c : Nat) (w : World) : Calls Try.prog 35 #[.agg #[.int .i64 W, .int .i64 H, .slice a n c]] w fun e w' => e = .returned (.bool (decide (RightP W H n))) ∧ Below w.heap.size w w' := by
  by_cases w1 : W < 1
  · rw [decide_eq_false (fun q : RightP W H n => by have := q.1.1; omega)]
    go_enter Try.func35, Try.ntmps35
    go_wp2_with fail
    go_ret
    exact ⟨rfl, (Below.refl _ _).alloc (Nat.le_refl _) _⟩
  by_cases w2 : 16384 < W
  · rw [decide_eq_false (fun q : RightP W H n => by have := q.1.2; omega)]
    go_enter Try.func35, Try.ntmps35
    go_wp2_with fail
    go_ret
    exact ⟨rfl, (Below.refl _ _).alloc (Nat.le_refl _) _⟩
  by_cases h1 : H < 1
  · rw [decide_eq_false (fun q : RightP W H n => by have := q.2.1.1; omega)]
    go_enter Try.func35, Try.ntmps35
    go_wp2_with fail
    go_ret
    exact ⟨rfl, (Below.refl _ _).alloc (Nat.le_refl _) _⟩
  by_cases h2 : 16384 < H
  · rw [decide_eq_false (fun q : RightP W H n => by have := q.2.1.2; omega)]
    go_enter Try.func35, Try.ntmps35
    go_wp2_with fail
    go_ret
    exact ⟨rfl, (Below.refl _ _).alloc (Nat.le_refl _) _⟩
  have hW : 1 ≤ W ∧ W ≤ 16384 := by omega
  have hH : 1 ≤ H ∧ H ≤ 16384 := by omega
  have HW1 := Lib.hid (img_four hW)
  have HW2 := Lib.hid (img_prod64 hW hH)
  obtain ⟨z, hz⟩ : ∃ z, z = 4 * W * H := ⟨_, rfl⟩
  have hd : decide (RightP W H n) = decide ((n : Int) = z) := by unfold RightP; rw [hz]; simp [hW, hH]
  rw [hd]
  by_cases hn : (n : Int) = z
  · rw [decide_eq_true hn]
    have HN := Lib.hid hn
    have HZ := Lib.hid hz
    have hnb : ((n : Int) == z) = true := by simpa using hn
    clear hz hd hW hH hn
    go_enter Try.func35, Try.ntmps35
    go_wp2_with fail
    go_ret
    exact ⟨ret1 (vbool (by first | rfl | (simp; done) | (simp [HW1.out, HW2.out]; rw [← HZ.out]; exact HN.out) | (simpa [HW1.out, HW2.out, HZ.out] using HN.out))), (Below.refl _ _).alloc (Nat.le_refl _) _⟩
  · rw [decide_eq_false hn]
    have HN := Lib.hid hn
    have HZ := Lib.hid hz
    have hnb : ((n : Int) == z) = false := by simpa using hn
    clear hz hd hW hH hn
    go_enter Try.func35, Try.ntmps35
    go_wp2_with fail
    go_ret
    exact ⟨ret1 (vbool (by first | rfl | (simp; done) | (simp [HW1.out, HW2.out]; rw [← HZ.out]; exact HN.out) | (simpa [HW1.out, HW2.out, HZ.out] using HN.out))), (Below.refl _ _).alloc (Nat.le_refl _) _⟩
end Go.Proofs.Ytfgcbhcfekonnaa
