/- The law BufMakes. -/
import Derived.Test.YtncdchaecbndlaaBufGet
import Derived.Test.YtncdchaecbndlaaFresh
namespace Go.Proofs.Ytncdchaecbndlaa
open Go.RowKit
set_option linter.unusedVariables false

set_option maxRecDepth 100000 in
set_option maxHeartbeats 1000000 in
theorem bufMakes_said (w : World) (B : Int) (hB : (Lit.int .i64 B).wf = true) (m : Int) (hm : (Lit.int .i64 m).wf = true) :
    Calls Try.prog 7 #[.int .i64 B, .int .i64 m] w fun e w' => e = .returned (.bool true) ∧ Below w.heap.size w w' := by
  obtain ⟨B0, B1⟩ := bounds_i64 hB
  obtain ⟨m0, m1⟩ := bounds_i64 hm
  have hok : (Led.new 0 0 B 0).Ok := Led.ok_new (by decide) (by decide) B1 (by decide)
  clear hB hm
  by_cases hbig : 5000 < m ∧ m ≤ B
  · obtain ⟨g1, g2⟩ := hbig
    go_enter Try.func7, Try.ntmps7
    go_wp2_with (go_at_call 28; refine (awake04_any _).mono ?_; rintro e w9 ⟨rfl, ba⟩)
    go_ret
    exact ⟨rfl, ba⟩
  have hq : 5000 < m → ¬ m ≤ B := fun h k => hbig ⟨h, k⟩
  by_cases hneg : m < 0
  · have n5 : ¬ 5000 < m := by omega
    clear hbig hq
    go_enter Try.func7, Try.ntmps7
    go_wp2_with (first
      | (go_at_call 29; have := k1; refine (bufMake_nil _ _).mono ?_; rintro e w2 ⟨rfl, rfl⟩)
      | (go_at_call 10; refine (ledNew_at (x := Led.new 0 0 B 0) rfl _).mono ?_; rintro e w0 ⟨g, rfl, hgB, h0, b0⟩)
      | (go_at_call 29; refine (bufMake_neg _ m _ hneg).mono ?_; rintro e w1 ⟨rfl, rfl⟩; have k1 := trivial)
      | (go_at_call 28; refine (awake04_any _).mono ?_; rintro e w9 ⟨rfl, ba⟩))
    go_ret
    exact ⟨rfl, below_next b0 ba⟩
  obtain ⟨k, rfl⟩ : ∃ k : Nat, m = k := ⟨m.toNat, by omega⟩
  by_cases ht : nought B < (k : Int)
  · have HE := Lib.hid (take_fresh_no (B := B) (n := (k : Int)) (by omega) ht)
    have HK := Lib.hid hok
    have HD := Lib.hid (show decide (((Led.new 0 0 B 0).refused 2 (k : Int)).reason ≠ 0) = true from rfl)
    have HY := Lib.hid (show ((Led.new 0 0 B 0).refused 2 (k : Int)).bytes = 0 from rfl)
    have hx : (if B < 0 then 0 else B) < (k : Int) := ht
    have hmax : (max B 0 : Int) < (k : Int) := by unfold nought at ht; split at ht <;> omega
    by_cases hB0 : B < 0
    all_goals
      have hlt : ¬ B < 0 → B < (k : Int) := fun h => by rw [if_neg h] at hx; exact hx
      have hkb : ¬ (k : Int) ≤ B := by omega
      have hk0 : B < 0 → (0 : Int) < (k : Int) := fun h => by rw [if_pos h] at hx; exact hx
      clear hok hx ht hq hbig
      go_enter Try.func7, Try.ntmps7
      go_wp2_with (first
        | (go_at_call 29; have := k1; refine (bufMake_nil _ _).mono ?_; rintro e w2 ⟨rfl, rfl⟩)
        | (go_at_call 10; refine (ledNew_at (x := Led.new 0 0 B 0) rfl _).mono ?_; rintro e w0 ⟨g, rfl, hgB, h0, b0⟩)
        | (go_at_call 29; refine (bufMake_no h0 HK.out HE.out (by omega)).mono ?_; rintro e w1 ⟨rfl, q1, q2⟩; have k1 := trivial)
        | (go_at_call 14; refine (bytes_at q1 HY.out).mono ?_; rintro e w2 ⟨rfl, rfl⟩)
        | (go_at_call 31; refine (broken_at q1 HD.out).mono ?_; rintro e w2 ⟨rfl, rfl⟩)
        | (go_at_call 28; refine (awake04_any _).mono ?_; rintro e w9 ⟨rfl, ba⟩))
      all_goals go_ret
      all_goals have s0 := b0.size
      all_goals exact ⟨rfl, below_next (Turn.belowNext b0 q2 (by simp; omega) s0) ba⟩
  · have hkB : (k : Int) ≤ B ∨ k = 0 := by unfold nought at ht; split at ht <;> omega
    have hk5 : ¬ (5000 : Int) < (k : Int) := hkB.elim (fun h h5 => hq h5 h) (fun h => by subst h; decide)
    have hE : (Led.new 0 0 B 0).take (k : Int) = (⟨0, 0, nought B, 0, k, k, 0, 0, 0⟩, true) := by
      rcases hkB with h | rfl
      · exact take_fresh_yes (by omega) h
      · unfold Led.take Led.new; simp; unfold nought; split <;> simp <;> omega
    have HE := Lib.hid hE
    have HK := Lib.hid hok
    have HY := Lib.hid (show (⟨0, 0, nought B, 0, (k : Int), (k : Int), 0, 0, 0⟩ : Led).bytes = k from rfl)
    have hmax : ¬ (max B 0 : Int) < (k : Int) := by omega
    have hb1 : ¬ B < 0 → ¬ B < (k : Int) := by omega
    have hb2 : B < 0 → ¬ (0 : Int) < (k : Int) := by omega
    by_cases hB0 : B < 0
    all_goals
      clear hok ht hq hbig hE
      go_enter Try.func7, Try.ntmps7
      go_wp2_with (first
        | (go_at_call 29; have := k1; refine (bufMake_nil _ _).mono ?_; rintro e w2 ⟨rfl, rfl⟩)
        | (go_at_call 10; refine (ledNew_at (x := Led.new 0 0 B 0) rfl _).mono ?_; rintro e w0 ⟨g, rfl, hgB, h0, b0⟩)
        | (go_at_call 29; refine (bufMake_yes h0 HK.out HE.out (by omega)).mono ?_; rintro e w1 ⟨b, d, rfl, q1, q2, q3, q4, q5⟩; have k1 := trivial)
        | (go_at_call 14; refine (bytes_at (p := (k : Int)) q2 rfl).mono ?_; rintro e w2 ⟨rfl, rfl⟩)
        | (go_at_call 32; refine (bufLen_at q1).mono ?_; rintro e w2 ⟨rfl, rfl⟩; rw [List.length_replicate])
        | (go_at_call 33; refine (bufGet_all q1 (by omega)).mono ?_; rintro e w2 ⟨rfl, rfl⟩)
        | (go_at_call 34; refine (refSame_zero k _ (by omega)).mono ?_; rintro e w3 ⟨rfl, bs⟩)
        | (go_at_call 28; refine (awake04_any _).mono ?_; rintro e w9 ⟨rfl, ba⟩))
      go_ret
      have s0 := b0.size
      exact ⟨rfl, below_next (below_next (Turn.belowNext b0 q5 (by simp; omega) s0) bs) ba⟩
end Go.Proofs.Ytncdchaecbndlaa
