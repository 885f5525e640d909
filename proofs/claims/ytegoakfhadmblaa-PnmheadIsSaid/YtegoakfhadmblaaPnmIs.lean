/- pnmhead.Is; the law PnmheadIs. -/
import Derived.Test.YtegoakfhadmblaaPnmReads
namespace Go.Proofs.Ytegoakfhadmblaa
open Go.RowKit
set_option linter.unusedVariables false
set_option linter.unusedSimpArgs false

theorem fld5 (a b c d e f g : Value) : ∀ w, (Instr.field 38 (.agg #[a, b, c, d, e, f, g]) 5).run Try.prog w = .ok f w := fun _ => by kernel_rfl
theorem isb35 : isBlank 35 = false := by decide
theorem over_zero {b : Nat} {l : List Nat} (h1 : b ≠ 35) (h2 : isBlank b = false) : overN false (b :: l) = 0 := by
  simp only [overN]
  rw [if_neg h1, h2]
  rfl
/-- a head that is read begins so -/
theorem headAt_begins {l : List Nat} {K W H M n : Nat} (h : headAt l = ⟨K, W, H, M, n, 0, 0⟩) : 2 < l.length ∧ l.getD 0 0 = 80 ∧ 49 ≤ l.getD 1 0 ∧ l.getD 1 0 ≤ 54 ∧ (isBlank (l.getD 2 0) = true ∨ l.getD 2 0 = 35 ∨ isDigit (l.getD 2 0) = true) := by
  unfold headAt at h
  split at h
  · exact absurd (congrArg HeadR.Kind h) (by simp [hbad])
  rename_i h1
  split at h
  · exact absurd (congrArg HeadR.Kind h) (by simp [hbad])
  rename_i h2
  split at h
  · exact absurd (congrArg HeadR.Kind h) (by simp [hbad])
  rename_i h3
  split at h
  · exact absurd (congrArg HeadR.Kind h) (by simp [hbad])
  rename_i h4
  unfold hsides hrest1 at h
  simp only at h
  have key : 2 < l.length ∧ (isBlank (l.getD 2 0) = true ∨ l.getD 2 0 = 35 ∨ isDigit (l.getD 2 0) = true) := by
    rcases hnum_or l 2 16384 3 (by omega) with ⟨kd, pl, e, q, h0, h2', hp⟩ | ⟨f, nn, e, q, hp⟩ | ⟨V, f, nn, e, q, h0, hmV, hp, hV⟩ | ⟨V, f, nn, e, q, h0, hmV, hn, han, hp⟩
    · simp only [q] at h
      rw [if_pos h0] at h
      exact absurd (congrArg HeadR.Kind h) h0
    · simp only [q] at h
      rw [if_pos (by decide)] at h
      exact absurd (congrArg HeadR.Kind h) (by simp [hbad])
    · simp only [q] at h
      rw [if_pos (by decide)] at h
      exact absurd (congrArg HeadR.Kind h) (by simp [hbad])
    · unfold numberAt at e
      simp only at e
      have hle := overN_le false (l.drop 2)
      rw [List.length_drop] at hle
      split at e
      · exact absurd (congrArg Got.Kind e) (by simp)
      · split at e
        · rename_i hlt hdg
          have h2l : 2 < l.length := by omega
          refine ⟨h2l, ?_⟩
          by_cases c1 : isBlank (l.getD 2 0) = true
          · exact .inl c1
          by_cases c2 : l.getD 2 0 = 35
          · exact .inr (.inl c2)
          · have hz : overN false (l.drop 2) = 0 := by
              rw [drop_at h2l]
              exact over_zero c2 (by cases hq : isBlank (l.getD 2 0) with | false => rfl | true => exact absurd hq c1)
            rw [hz] at hdg
            exact .inr (.inr hdg)
        · exact absurd (congrArg Got.Kind e) (by simp)
  exact ⟨key.1, by omega, by omega, by omega, key.2⟩

set_option maxRecDepth 100000 in
set_option maxHeartbeats 1000000 in
theorem pis_A {s : ByteArray} {w : World} (hs : s.size ≤ 300) (h : ¬ 2 < s.size) : Calls Try.prog 24 #[.string s] w fun e w' => e = .returned (.bool false) ∧ w = w' := by
  have i1 : ¬ (2 : Int) < (s.size : Int) := by omega
  go_enter Try.func24, Try.ntmps24
  go_wp2_with fail
  go_ret
  exact ⟨rfl, rfl⟩

set_option maxRecDepth 100000 in
set_option maxHeartbeats 1000000 in
theorem pis_B {s : ByteArray} {w : World} (hs : s.size ≤ 300) (h : 2 < s.size) (h0 : bat s 0 ≠ 80) : Calls Try.prog 24 #[.string s] w fun e w' => e = .returned (.bool false) ∧ w = w' := by
  have hq0 := bat_eq (show 0 < s.size by omega)
  have hq1 := bat_eq (show 1 < s.size by omega)
  have hq2 := bat_eq h
  have HQ := Lib.hid hq2
  have v2 := bat_lt s 2
  have i1 : (2 : Int) < (s.size : Int) := by omega
  have e0 : ¬ (((s[0]).toNat : Nat) : Int) = 80 := by omega
  have f0 : ((((s[0]).toNat : Nat) : Int) == 80) = false := beq_eq_false_iff_ne.2 e0
  go_enter Try.func24, Try.ntmps24
  go_wp2_with fail
  go_ret
  exact ⟨rfl, rfl⟩

set_option maxRecDepth 100000 in
set_option maxHeartbeats 1000000 in
theorem pis_C {s : ByteArray} {w : World} (hs : s.size ≤ 300) (h : 2 < s.size) (h0 : bat s 0 = 80) (h1 : bat s 1 < 49) : Calls Try.prog 24 #[.string s] w fun e w' => e = .returned (.bool false) ∧ w = w' := by
  have hq0 := bat_eq (show 0 < s.size by omega)
  have hq1 := bat_eq (show 1 < s.size by omega)
  have hq2 := bat_eq h
  have HQ := Lib.hid hq2
  have v2 := bat_lt s 2
  have i1 : (2 : Int) < (s.size : Int) := by omega
  have e0 : (((s[0]).toNat : Nat) : Int) = 80 := by omega
  have e1 : ¬ (49 : Int) ≤ (((s[1]).toNat : Nat) : Int) := by omega
  go_enter Try.func24, Try.ntmps24
  go_wp2_with fail
  go_ret
  exact ⟨rfl, rfl⟩

set_option maxRecDepth 100000 in
set_option maxHeartbeats 1000000 in
theorem pis_D {s : ByteArray} {w : World} (hs : s.size ≤ 300) (h : 2 < s.size) (h0 : bat s 0 = 80) (h1 : 54 < bat s 1) : Calls Try.prog 24 #[.string s] w fun e w' => e = .returned (.bool false) ∧ w = w' := by
  have hq0 := bat_eq (show 0 < s.size by omega)
  have hq1 := bat_eq (show 1 < s.size by omega)
  have hq2 := bat_eq h
  have HQ := Lib.hid hq2
  have v2 := bat_lt s 2
  have i1 : (2 : Int) < (s.size : Int) := by omega
  have e0 : (((s[0]).toNat : Nat) : Int) = 80 := by omega
  have e1 : (49 : Int) ≤ (((s[1]).toNat : Nat) : Int) := by omega
  have e2 : ¬ (((s[1]).toNat : Nat) : Int) ≤ 54 := by omega
  go_enter Try.func24, Try.ntmps24
  go_wp2_with fail
  go_ret
  exact ⟨rfl, rfl⟩

set_option maxRecDepth 100000 in
set_option maxHeartbeats 1000000 in
theorem pis_E {s : ByteArray} {w : World} (hs : s.size ≤ 300) (h : 2 < s.size) (h0 : bat s 0 = 80) (h1 : 49 ≤ bat s 1) (h2 : bat s 1 ≤ 54) (hb : isBlank (bat s 2) = true) : Calls Try.prog 24 #[.string s] w fun e w' => e = .returned (.bool true) ∧ w = w' := by
  have hq0 := bat_eq (show 0 < s.size by omega)
  have hq1 := bat_eq (show 1 < s.size by omega)
  have hq2 := bat_eq h
  have HQ := Lib.hid hq2
  have v2 := bat_lt s 2
  have i1 : (2 : Int) < (s.size : Int) := by omega
  have e0 : (((s[0]).toNat : Nat) : Int) = 80 := by omega
  have e1 : (49 : Int) ≤ (((s[1]).toNat : Nat) : Int) := by omega
  have e2 : (((s[1]).toNat : Nat) : Int) ≤ 54 := by omega
  have HB := Lib.hid hb
  clear hb
  go_enter Try.func24, Try.ntmps24
  go_wp2_with (go_at_call 68; rw [← HQ.out]; refine (blank_any (bat s 2) _).mono ?_; rintro e w9 ⟨rfl, rfl⟩; rw [HB.out])
  go_ret
  exact ⟨rfl, rfl⟩

set_option maxRecDepth 100000 in
set_option maxHeartbeats 1000000 in
theorem pis_F {s : ByteArray} {w : World} (hs : s.size ≤ 300) (h : 2 < s.size) (h0 : bat s 0 = 80) (h1 : 49 ≤ bat s 1) (h2 : bat s 1 ≤ 54) (hb : isBlank (bat s 2) = false) (h3 : bat s 2 = 35) : Calls Try.prog 24 #[.string s] w fun e w' => e = .returned (.bool true) ∧ w = w' := by
  have hq0 := bat_eq (show 0 < s.size by omega)
  have hq1 := bat_eq (show 1 < s.size by omega)
  have hq2 := bat_eq h
  have HQ := Lib.hid hq2
  have v2 := bat_lt s 2
  have i1 : (2 : Int) < (s.size : Int) := by omega
  have e0 : (((s[0]).toNat : Nat) : Int) = 80 := by omega
  have e1 : (49 : Int) ≤ (((s[1]).toNat : Nat) : Int) := by omega
  have e2 : (((s[1]).toNat : Nat) : Int) ≤ 54 := by omega
  have HB := Lib.hid hb
  clear hb
  have e3 : (((s[2]).toNat : Nat) : Int) = 35 := by omega
  go_enter Try.func24, Try.ntmps24
  go_wp2_with (go_at_call 68; refine (blank_any 35 _).mono ?_; rintro e w9 ⟨rfl, rfl⟩; rw [isb35])
  go_ret
  exact ⟨rfl, rfl⟩

set_option maxRecDepth 100000 in
set_option maxHeartbeats 1000000 in
theorem pis_G {s : ByteArray} {w : World} (hs : s.size ≤ 300) (h : 2 < s.size) (h0 : bat s 0 = 80) (h1 : 49 ≤ bat s 1) (h2 : bat s 1 ≤ 54) (hb : isBlank (bat s 2) = false) (h3 : bat s 2 ≠ 35) : Calls Try.prog 24 #[.string s] w fun e w' => e = .returned (.bool false) ∧ w = w' := by
  have hq0 := bat_eq (show 0 < s.size by omega)
  have hq1 := bat_eq (show 1 < s.size by omega)
  have hq2 := bat_eq h
  have HQ := Lib.hid hq2
  have v2 := bat_lt s 2
  have i1 : (2 : Int) < (s.size : Int) := by omega
  have e0 : (((s[0]).toNat : Nat) : Int) = 80 := by omega
  have e1 : (49 : Int) ≤ (((s[1]).toNat : Nat) : Int) := by omega
  have e2 : (((s[1]).toNat : Nat) : Int) ≤ 54 := by omega
  have HB := Lib.hid hb
  clear hb
  have e3 : ¬ (((s[2]).toNat : Nat) : Int) = 35 := by omega
  have f3 : ((((s[2]).toNat : Nat) : Int) == 35) = false := beq_eq_false_iff_ne.2 e3
  go_enter Try.func24, Try.ntmps24
  go_wp2_with (go_at_call 68; rw [← HQ.out]; refine (blank_any (bat s 2) _).mono ?_; rintro e w9 ⟨rfl, rfl⟩; rw [HB.out])
  go_ret
  exact ⟨rfl, rfl⟩

set_option maxRecDepth 100000 in
set_option maxHeartbeats 1000000 in
theorem isLaw_A1 {s : ByteArray} {w : World} {kd pl : Nat} (hs : s.size ≤ 300) (h : ¬ 2 < s.size) (hk : kd ≠ 0) (hR : ∀ w : World, Calls Try.prog 17 #[.string s] w fun e w' => e = .returned (.agg #[.int .i64 0, .int .i64 0, .int .i64 0, .int .i64 0, .int .i64 0, .int .i64 (kd : Int), .int .i64 (pl : Int)]) ∧ Below w.heap.size w w') :
    Calls Try.prog 5 #[.string s] w fun e w' => e = .returned (.bool true) ∧ Below w.heap.size w w' := by
  have i1 : ¬ (2 : Int) < (s.size : Int) := by omega
  have i0 : ¬ (300 : Int) < (s.size : Int) := by omega
  have j0 : ¬ (kd : Int) = 0 := by omega
  have fx := fld5 (.int .i64 0) (.int .i64 0) (.int .i64 0) (.int .i64 0) (.int .i64 0) (.int .i64 (kd : Int)) (.int .i64 (pl : Int))
  have HR := Lib.hid hR
  have HP := Lib.hid (fun w => pis_A (w := w) hs h)
  clear hR
  go_enter Try.func5, Try.ntmps5
  go_wp2_with (first
    | (go_at_call 24; refine (HP.out _).mono ?_; rintro e w9 ⟨rfl, rfl⟩)
    | (go_at_call 17; refine (HR.out _).mono ?_; rintro e w3 ⟨rfl, b3⟩)
    | (go_at_call 13; refine (awake12_any _).mono ?_; rintro e w5 ⟨rfl, b5⟩))
  go_ret
  exact ⟨rfl, below_next b3 b5⟩

set_option maxRecDepth 100000 in
set_option maxHeartbeats 1000000 in
theorem isLaw_B1 {s : ByteArray} {w : World} {kd pl : Nat} (hs : s.size ≤ 300) (h : 2 < s.size) (h0 : bat s 0 ≠ 80) (hk : kd ≠ 0) (hR : ∀ w : World, Calls Try.prog 17 #[.string s] w fun e w' => e = .returned (.agg #[.int .i64 0, .int .i64 0, .int .i64 0, .int .i64 0, .int .i64 0, .int .i64 (kd : Int), .int .i64 (pl : Int)]) ∧ Below w.heap.size w w') :
    Calls Try.prog 5 #[.string s] w fun e w' => e = .returned (.bool true) ∧ Below w.heap.size w w' := by
  have hq0 := bat_eq (show 0 < s.size by omega)
  have hq1 := bat_eq (show 1 < s.size by omega)
  have hq2 := bat_eq h
  have HQ := Lib.hid hq2
  have v2 := bat_lt s 2
  have i1 : (2 : Int) < (s.size : Int) := by omega
  have e0 : ¬ (((s[0]).toNat : Nat) : Int) = 80 := by omega
  have f0 : ((((s[0]).toNat : Nat) : Int) == 80) = false := beq_eq_false_iff_ne.2 e0
  have i0 : ¬ (300 : Int) < (s.size : Int) := by omega
  have j0 : ¬ (kd : Int) = 0 := by omega
  have fx := fld5 (.int .i64 0) (.int .i64 0) (.int .i64 0) (.int .i64 0) (.int .i64 0) (.int .i64 (kd : Int)) (.int .i64 (pl : Int))
  have HR := Lib.hid hR
  have HP := Lib.hid (fun w => pis_B (w := w) hs h h0)
  clear hR
  go_enter Try.func5, Try.ntmps5
  go_wp2_with (first
    | (go_at_call 24; refine (HP.out _).mono ?_; rintro e w9 ⟨rfl, rfl⟩)
    | (go_at_call 17; refine (HR.out _).mono ?_; rintro e w3 ⟨rfl, b3⟩)
    | (go_at_call 13; refine (awake12_any _).mono ?_; rintro e w5 ⟨rfl, b5⟩))
  go_ret
  exact ⟨rfl, below_next b3 b5⟩

set_option maxRecDepth 100000 in
set_option maxHeartbeats 1000000 in
theorem isLaw_C1 {s : ByteArray} {w : World} {kd pl : Nat} (hs : s.size ≤ 300) (h : 2 < s.size) (h0 : bat s 0 = 80) (h1 : bat s 1 < 49) (hk : kd ≠ 0) (hR : ∀ w : World, Calls Try.prog 17 #[.string s] w fun e w' => e = .returned (.agg #[.int .i64 0, .int .i64 0, .int .i64 0, .int .i64 0, .int .i64 0, .int .i64 (kd : Int), .int .i64 (pl : Int)]) ∧ Below w.heap.size w w') :
    Calls Try.prog 5 #[.string s] w fun e w' => e = .returned (.bool true) ∧ Below w.heap.size w w' := by
  have hq0 := bat_eq (show 0 < s.size by omega)
  have hq1 := bat_eq (show 1 < s.size by omega)
  have hq2 := bat_eq h
  have HQ := Lib.hid hq2
  have v2 := bat_lt s 2
  have i1 : (2 : Int) < (s.size : Int) := by omega
  have e0 : (((s[0]).toNat : Nat) : Int) = 80 := by omega
  have e1 : ¬ (49 : Int) ≤ (((s[1]).toNat : Nat) : Int) := by omega
  have i0 : ¬ (300 : Int) < (s.size : Int) := by omega
  have j0 : ¬ (kd : Int) = 0 := by omega
  have fx := fld5 (.int .i64 0) (.int .i64 0) (.int .i64 0) (.int .i64 0) (.int .i64 0) (.int .i64 (kd : Int)) (.int .i64 (pl : Int))
  have HR := Lib.hid hR
  have HP := Lib.hid (fun w => pis_C (w := w) hs h h0 h1)
  clear hR
  go_enter Try.func5, Try.ntmps5
  go_wp2_with (first
    | (go_at_call 24; refine (HP.out _).mono ?_; rintro e w9 ⟨rfl, rfl⟩)
    | (go_at_call 17; refine (HR.out _).mono ?_; rintro e w3 ⟨rfl, b3⟩)
    | (go_at_call 13; refine (awake12_any _).mono ?_; rintro e w5 ⟨rfl, b5⟩))
  go_ret
  exact ⟨rfl, below_next b3 b5⟩

set_option maxRecDepth 100000 in
set_option maxHeartbeats 1000000 in
theorem isLaw_D1 {s : ByteArray} {w : World} {kd pl : Nat} (hs : s.size ≤ 300) (h : 2 < s.size) (h0 : bat s 0 = 80) (h1 : 54 < bat s 1) (hk : kd ≠ 0) (hR : ∀ w : World, Calls Try.prog 17 #[.string s] w fun e w' => e = .returned (.agg #[.int .i64 0, .int .i64 0, .int .i64 0, .int .i64 0, .int .i64 0, .int .i64 (kd : Int), .int .i64 (pl : Int)]) ∧ Below w.heap.size w w') :
    Calls Try.prog 5 #[.string s] w fun e w' => e = .returned (.bool true) ∧ Below w.heap.size w w' := by
  have hq0 := bat_eq (show 0 < s.size by omega)
  have hq1 := bat_eq (show 1 < s.size by omega)
  have hq2 := bat_eq h
  have HQ := Lib.hid hq2
  have v2 := bat_lt s 2
  have i1 : (2 : Int) < (s.size : Int) := by omega
  have e0 : (((s[0]).toNat : Nat) : Int) = 80 := by omega
  have e1 : (49 : Int) ≤ (((s[1]).toNat : Nat) : Int) := by omega
  have e2 : ¬ (((s[1]).toNat : Nat) : Int) ≤ 54 := by omega
  have i0 : ¬ (300 : Int) < (s.size : Int) := by omega
  have j0 : ¬ (kd : Int) = 0 := by omega
  have fx := fld5 (.int .i64 0) (.int .i64 0) (.int .i64 0) (.int .i64 0) (.int .i64 0) (.int .i64 (kd : Int)) (.int .i64 (pl : Int))
  have HR := Lib.hid hR
  have HP := Lib.hid (fun w => pis_D (w := w) hs h h0 h1)
  clear hR
  go_enter Try.func5, Try.ntmps5
  go_wp2_with (first
    | (go_at_call 24; refine (HP.out _).mono ?_; rintro e w9 ⟨rfl, rfl⟩)
    | (go_at_call 17; refine (HR.out _).mono ?_; rintro e w3 ⟨rfl, b3⟩)
    | (go_at_call 13; refine (awake12_any _).mono ?_; rintro e w5 ⟨rfl, b5⟩))
  go_ret
  exact ⟨rfl, below_next b3 b5⟩

set_option maxRecDepth 100000 in
set_option maxHeartbeats 1000000 in
theorem isLaw_E1 {s : ByteArray} {w : World} {kd pl : Nat} (hs : s.size ≤ 300) (h : 2 < s.size) (h0 : bat s 0 = 80) (h1 : 49 ≤ bat s 1) (h2 : bat s 1 ≤ 54) (hb : isBlank (bat s 2) = true) (hk : kd ≠ 0) (hR : ∀ w : World, Calls Try.prog 17 #[.string s] w fun e w' => e = .returned (.agg #[.int .i64 0, .int .i64 0, .int .i64 0, .int .i64 0, .int .i64 0, .int .i64 (kd : Int), .int .i64 (pl : Int)]) ∧ Below w.heap.size w w') :
    Calls Try.prog 5 #[.string s] w fun e w' => e = .returned (.bool true) ∧ Below w.heap.size w w' := by
  have hq0 := bat_eq (show 0 < s.size by omega)
  have hq1 := bat_eq (show 1 < s.size by omega)
  have hq2 := bat_eq h
  have HQ := Lib.hid hq2
  have v2 := bat_lt s 2
  have i1 : (2 : Int) < (s.size : Int) := by omega
  have e0 : (((s[0]).toNat : Nat) : Int) = 80 := by omega
  have e1 : (49 : Int) ≤ (((s[1]).toNat : Nat) : Int) := by omega
  have e2 : (((s[1]).toNat : Nat) : Int) ≤ 54 := by omega
  have HB := Lib.hid hb
  clear hb
  have i0 : ¬ (300 : Int) < (s.size : Int) := by omega
  have j0 : ¬ (kd : Int) = 0 := by omega
  have fx := fld5 (.int .i64 0) (.int .i64 0) (.int .i64 0) (.int .i64 0) (.int .i64 0) (.int .i64 (kd : Int)) (.int .i64 (pl : Int))
  have HR := Lib.hid hR
  have HP := Lib.hid (fun w => pis_E (w := w) hs h h0 h1 h2 HB.out)
  clear hR
  go_enter Try.func5, Try.ntmps5
  go_wp2_with (first
    | (go_at_call 23; rw [← HQ.out]; refine (rblank_any (bat s 2) _).mono ?_; rintro e w9 ⟨rfl, rfl⟩; rw [HB.out])
    | (go_at_call 24; refine (HP.out _).mono ?_; rintro e w9 ⟨rfl, rfl⟩)
    | (go_at_call 17; refine (HR.out _).mono ?_; rintro e w3 ⟨rfl, b3⟩)
    | (go_at_call 13; refine (awake12_any _).mono ?_; rintro e w5 ⟨rfl, b5⟩))
  go_ret
  exact ⟨rfl, below_next b3 b5⟩

set_option maxRecDepth 100000 in
set_option maxHeartbeats 1000000 in
theorem isLaw_F1 {s : ByteArray} {w : World} {kd pl : Nat} (hs : s.size ≤ 300) (h : 2 < s.size) (h0 : bat s 0 = 80) (h1 : 49 ≤ bat s 1) (h2 : bat s 1 ≤ 54) (hb : isBlank (bat s 2) = false) (h3 : bat s 2 = 35) (hk : kd ≠ 0) (hR : ∀ w : World, Calls Try.prog 17 #[.string s] w fun e w' => e = .returned (.agg #[.int .i64 0, .int .i64 0, .int .i64 0, .int .i64 0, .int .i64 0, .int .i64 (kd : Int), .int .i64 (pl : Int)]) ∧ Below w.heap.size w w') :
    Calls Try.prog 5 #[.string s] w fun e w' => e = .returned (.bool true) ∧ Below w.heap.size w w' := by
  have hq0 := bat_eq (show 0 < s.size by omega)
  have hq1 := bat_eq (show 1 < s.size by omega)
  have hq2 := bat_eq h
  have HQ := Lib.hid hq2
  have v2 := bat_lt s 2
  have i1 : (2 : Int) < (s.size : Int) := by omega
  have e0 : (((s[0]).toNat : Nat) : Int) = 80 := by omega
  have e1 : (49 : Int) ≤ (((s[1]).toNat : Nat) : Int) := by omega
  have e2 : (((s[1]).toNat : Nat) : Int) ≤ 54 := by omega
  have HB := Lib.hid hb
  clear hb
  have e3 : (((s[2]).toNat : Nat) : Int) = 35 := by omega
  have i0 : ¬ (300 : Int) < (s.size : Int) := by omega
  have j0 : ¬ (kd : Int) = 0 := by omega
  have fx := fld5 (.int .i64 0) (.int .i64 0) (.int .i64 0) (.int .i64 0) (.int .i64 0) (.int .i64 (kd : Int)) (.int .i64 (pl : Int))
  have HR := Lib.hid hR
  have HP := Lib.hid (fun w => pis_F (w := w) hs h h0 h1 h2 HB.out h3)
  clear hR
  go_enter Try.func5, Try.ntmps5
  go_wp2_with (first
    | (go_at_call 23; refine (rblank_any 35 _).mono ?_; rintro e w9 ⟨rfl, rfl⟩; rw [isb35])
    | (go_at_call 24; refine (HP.out _).mono ?_; rintro e w9 ⟨rfl, rfl⟩)
    | (go_at_call 17; refine (HR.out _).mono ?_; rintro e w3 ⟨rfl, b3⟩)
    | (go_at_call 13; refine (awake12_any _).mono ?_; rintro e w5 ⟨rfl, b5⟩))
  go_ret
  exact ⟨rfl, below_next b3 b5⟩

set_option maxRecDepth 100000 in
set_option maxHeartbeats 1000000 in
theorem isLaw_G1 {s : ByteArray} {w : World} {kd pl : Nat} (hs : s.size ≤ 300) (h : 2 < s.size) (h0 : bat s 0 = 80) (h1 : 49 ≤ bat s 1) (h2 : bat s 1 ≤ 54) (hb : isBlank (bat s 2) = false) (h3 : bat s 2 ≠ 35) (hk : kd ≠ 0) (hR : ∀ w : World, Calls Try.prog 17 #[.string s] w fun e w' => e = .returned (.agg #[.int .i64 0, .int .i64 0, .int .i64 0, .int .i64 0, .int .i64 0, .int .i64 (kd : Int), .int .i64 (pl : Int)]) ∧ Below w.heap.size w w') :
    Calls Try.prog 5 #[.string s] w fun e w' => e = .returned (.bool true) ∧ Below w.heap.size w w' := by
  have hq0 := bat_eq (show 0 < s.size by omega)
  have hq1 := bat_eq (show 1 < s.size by omega)
  have hq2 := bat_eq h
  have HQ := Lib.hid hq2
  have v2 := bat_lt s 2
  have i1 : (2 : Int) < (s.size : Int) := by omega
  have e0 : (((s[0]).toNat : Nat) : Int) = 80 := by omega
  have e1 : (49 : Int) ≤ (((s[1]).toNat : Nat) : Int) := by omega
  have e2 : (((s[1]).toNat : Nat) : Int) ≤ 54 := by omega
  have HB := Lib.hid hb
  clear hb
  have e3 : ¬ (((s[2]).toNat : Nat) : Int) = 35 := by omega
  have f3 : ((((s[2]).toNat : Nat) : Int) == 35) = false := beq_eq_false_iff_ne.2 e3
  have i0 : ¬ (300 : Int) < (s.size : Int) := by omega
  have j0 : ¬ (kd : Int) = 0 := by omega
  have fx := fld5 (.int .i64 0) (.int .i64 0) (.int .i64 0) (.int .i64 0) (.int .i64 0) (.int .i64 (kd : Int)) (.int .i64 (pl : Int))
  have HR := Lib.hid hR
  have HP := Lib.hid (fun w => pis_G (w := w) hs h h0 h1 h2 HB.out h3)
  clear hR
  go_enter Try.func5, Try.ntmps5
  go_wp2_with (first
    | (go_at_call 23; rw [← HQ.out]; refine (rblank_any (bat s 2) _).mono ?_; rintro e w9 ⟨rfl, rfl⟩; rw [HB.out])
    | (go_at_call 24; refine (HP.out _).mono ?_; rintro e w9 ⟨rfl, rfl⟩)
    | (go_at_call 17; refine (HR.out _).mono ?_; rintro e w3 ⟨rfl, b3⟩)
    | (go_at_call 13; refine (awake12_any _).mono ?_; rintro e w5 ⟨rfl, b5⟩))
  go_ret
  exact ⟨rfl, below_next b3 b5⟩

set_option maxRecDepth 100000 in
set_option maxHeartbeats 1000000 in
theorem isLaw_E0 {s : ByteArray} {w : World} {K W Hh M n : Nat} (hs : s.size ≤ 300) (h : 2 < s.size) (h0 : bat s 0 = 80) (h1 : 49 ≤ bat s 1) (h2 : bat s 1 ≤ 54) (hb : isBlank (bat s 2) = true) (hR : ∀ w : World, Calls Try.prog 17 #[.string s] w fun e w' => e = .returned (.agg #[.int .i64 (K : Int), .int .i64 (W : Int), .int .i64 (Hh : Int), .int .i64 (M : Int), .int .i64 (n : Int), .int .i64 0, .int .i64 0]) ∧ Below w.heap.size w w') :
    Calls Try.prog 5 #[.string s] w fun e w' => e = .returned (.bool true) ∧ Below w.heap.size w w' := by
  have hq0 := bat_eq (show 0 < s.size by omega)
  have hq1 := bat_eq (show 1 < s.size by omega)
  have hq2 := bat_eq h
  have HQ := Lib.hid hq2
  have v2 := bat_lt s 2
  have i1 : (2 : Int) < (s.size : Int) := by omega
  have e0 : (((s[0]).toNat : Nat) : Int) = 80 := by omega
  have e1 : (49 : Int) ≤ (((s[1]).toNat : Nat) : Int) := by omega
  have e2 : (((s[1]).toNat : Nat) : Int) ≤ 54 := by omega
  have HB := Lib.hid hb
  clear hb
  have i0 : ¬ (300 : Int) < (s.size : Int) := by omega
  have fx := fld5 (.int .i64 (K : Int)) (.int .i64 (W : Int)) (.int .i64 (Hh : Int)) (.int .i64 (M : Int)) (.int .i64 (n : Int)) (.int .i64 0) (.int .i64 0)
  have HR := Lib.hid hR
  have HP := Lib.hid (fun w => pis_E (w := w) hs h h0 h1 h2 HB.out)
  clear hR
  go_enter Try.func5, Try.ntmps5
  go_wp2_with (first
    | (go_at_call 23; rw [← HQ.out]; refine (rblank_any (bat s 2) _).mono ?_; rintro e w9 ⟨rfl, rfl⟩; rw [HB.out])
    | (go_at_call 24; refine (HP.out _).mono ?_; rintro e w9 ⟨rfl, rfl⟩)
    | (go_at_call 17; refine (HR.out _).mono ?_; rintro e w3 ⟨rfl, b3⟩)
    | (go_at_call 13; refine (awake12_any _).mono ?_; rintro e w5 ⟨rfl, b5⟩))
  go_ret
  exact ⟨rfl, below_next b3 b5⟩

set_option maxRecDepth 100000 in
set_option maxHeartbeats 1000000 in
theorem isLaw_F0 {s : ByteArray} {w : World} {K W Hh M n : Nat} (hs : s.size ≤ 300) (h : 2 < s.size) (h0 : bat s 0 = 80) (h1 : 49 ≤ bat s 1) (h2 : bat s 1 ≤ 54) (hb : isBlank (bat s 2) = false) (h3 : bat s 2 = 35) (hR : ∀ w : World, Calls Try.prog 17 #[.string s] w fun e w' => e = .returned (.agg #[.int .i64 (K : Int), .int .i64 (W : Int), .int .i64 (Hh : Int), .int .i64 (M : Int), .int .i64 (n : Int), .int .i64 0, .int .i64 0]) ∧ Below w.heap.size w w') :
    Calls Try.prog 5 #[.string s] w fun e w' => e = .returned (.bool true) ∧ Below w.heap.size w w' := by
  have hq0 := bat_eq (show 0 < s.size by omega)
  have hq1 := bat_eq (show 1 < s.size by omega)
  have hq2 := bat_eq h
  have HQ := Lib.hid hq2
  have v2 := bat_lt s 2
  have i1 : (2 : Int) < (s.size : Int) := by omega
  have e0 : (((s[0]).toNat : Nat) : Int) = 80 := by omega
  have e1 : (49 : Int) ≤ (((s[1]).toNat : Nat) : Int) := by omega
  have e2 : (((s[1]).toNat : Nat) : Int) ≤ 54 := by omega
  have HB := Lib.hid hb
  clear hb
  have e3 : (((s[2]).toNat : Nat) : Int) = 35 := by omega
  have i0 : ¬ (300 : Int) < (s.size : Int) := by omega
  have fx := fld5 (.int .i64 (K : Int)) (.int .i64 (W : Int)) (.int .i64 (Hh : Int)) (.int .i64 (M : Int)) (.int .i64 (n : Int)) (.int .i64 0) (.int .i64 0)
  have HR := Lib.hid hR
  have HP := Lib.hid (fun w => pis_F (w := w) hs h h0 h1 h2 HB.out h3)
  clear hR
  go_enter Try.func5, Try.ntmps5
  go_wp2_with (first
    | (go_at_call 23; refine (rblank_any 35 _).mono ?_; rintro e w9 ⟨rfl, rfl⟩; rw [isb35])
    | (go_at_call 24; refine (HP.out _).mono ?_; rintro e w9 ⟨rfl, rfl⟩)
    | (go_at_call 17; refine (HR.out _).mono ?_; rintro e w3 ⟨rfl, b3⟩)
    | (go_at_call 13; refine (awake12_any _).mono ?_; rintro e w5 ⟨rfl, b5⟩))
  go_ret
  exact ⟨rfl, below_next b3 b5⟩

set_option maxRecDepth 100000 in
set_option maxHeartbeats 1000000 in
theorem isLaw_G0 {s : ByteArray} {w : World} {K W Hh M n : Nat} (hs : s.size ≤ 300) (h : 2 < s.size) (h0 : bat s 0 = 80) (h1 : 49 ≤ bat s 1) (h2 : bat s 1 ≤ 54) (hb : isBlank (bat s 2) = false) (h3 : bat s 2 ≠ 35) (hd : 48 ≤ bat s 2 ∧ bat s 2 ≤ 57) (hR : ∀ w : World, Calls Try.prog 17 #[.string s] w fun e w' => e = .returned (.agg #[.int .i64 (K : Int), .int .i64 (W : Int), .int .i64 (Hh : Int), .int .i64 (M : Int), .int .i64 (n : Int), .int .i64 0, .int .i64 0]) ∧ Below w.heap.size w w') :
    Calls Try.prog 5 #[.string s] w fun e w' => e = .returned (.bool true) ∧ Below w.heap.size w w' := by
  have hq0 := bat_eq (show 0 < s.size by omega)
  have hq1 := bat_eq (show 1 < s.size by omega)
  have hq2 := bat_eq h
  have HQ := Lib.hid hq2
  have v2 := bat_lt s 2
  have i1 : (2 : Int) < (s.size : Int) := by omega
  have e0 : (((s[0]).toNat : Nat) : Int) = 80 := by omega
  have e1 : (49 : Int) ≤ (((s[1]).toNat : Nat) : Int) := by omega
  have e2 : (((s[1]).toNat : Nat) : Int) ≤ 54 := by omega
  have HB := Lib.hid hb
  clear hb
  have e3 : ¬ (((s[2]).toNat : Nat) : Int) = 35 := by omega
  have f3 : ((((s[2]).toNat : Nat) : Int) == 35) = false := beq_eq_false_iff_ne.2 e3
  have g1 : (48 : Int) ≤ (((s[2]).toNat : Nat) : Int) := by omega
  have g2 : (((s[2]).toNat : Nat) : Int) ≤ 57 := by omega
  have i0 : ¬ (300 : Int) < (s.size : Int) := by omega
  have fx := fld5 (.int .i64 (K : Int)) (.int .i64 (W : Int)) (.int .i64 (Hh : Int)) (.int .i64 (M : Int)) (.int .i64 (n : Int)) (.int .i64 0) (.int .i64 0)
  have HR := Lib.hid hR
  have HP := Lib.hid (fun w => pis_G (w := w) hs h h0 h1 h2 HB.out h3)
  clear hR
  go_enter Try.func5, Try.ntmps5
  go_wp2_with (first
    | (go_at_call 23; rw [← HQ.out]; refine (rblank_any (bat s 2) _).mono ?_; rintro e w9 ⟨rfl, rfl⟩; rw [HB.out])
    | (go_at_call 24; refine (HP.out _).mono ?_; rintro e w9 ⟨rfl, rfl⟩)
    | (go_at_call 17; refine (HR.out _).mono ?_; rintro e w3 ⟨rfl, b3⟩)
    | (go_at_call 13; refine (awake12_any _).mono ?_; rintro e w5 ⟨rfl, b5⟩))
  go_ret
  exact ⟨rfl, below_next b3 b5⟩

set_option maxRecDepth 100000 in
theorem pnmheadIs_said (w : World) (s : ByteArray) (hs : s.size ≤ maxLen) :
    Calls Try.prog 5 #[.string s] w fun e w' => e = .returned (.bool true) ∧ Below w.heap.size w w' := by
  by_cases hlen : s.size ≤ 300
  · have hgood := headAt_good (nats s)
    have hl := nats_len s
    have hR := fun w => refHead_any s w (by omega)
    rcases hgood with ⟨kd, pl, hh, hk0, hk4, hpl⟩ | ⟨K, W, H, M, n, hh, hK, hW, hH, hM, hn⟩
    · rw [hh] at hR
      by_cases h : 2 < s.size
      · by_cases h0 : bat s 0 = 80
        · by_cases h1 : bat s 1 < 49
          · exact isLaw_C1 hlen h h0 h1 hk0 hR
          by_cases h2 : 54 < bat s 1
          · exact isLaw_D1 hlen h h0 h2 hk0 hR
          by_cases hb : isBlank (bat s 2) = true
          · exact isLaw_E1 hlen h h0 (by omega) (by omega) hb hk0 hR
          by_cases h3 : bat s 2 = 35
          · exact isLaw_F1 hlen h h0 (by omega) (by omega) (bool_no hb) h3 hk0 hR
          · exact isLaw_G1 hlen h h0 (by omega) (by omega) (bool_no hb) h3 hk0 hR
        · exact isLaw_B1 hlen h h0 hk0 hR
      · exact isLaw_A1 hlen h hk0 hR
    · obtain ⟨a1, a2, a3, a4, a5⟩ := headAt_begins hh
      rw [hl] at a1
      rw [hh] at hR
      by_cases hb : isBlank (bat s 2) = true
      · exact isLaw_E0 hlen a1 a2 a3 a4 hb hR
      by_cases h3 : bat s 2 = 35
      · exact isLaw_F0 hlen a1 a2 a3 a4 (bool_no hb) h3 hR
      · have hd : isDigit (bat s 2) = true := by
          rcases a5 with a5 | a5 | a5
          · exact absurd a5 hb
          · exact absurd a5 h3
          · exact a5
        exact isLaw_G0 hlen a1 a2 a3 a4 (bool_no hb) h3 (by unfold isDigit at hd; simpa using hd) hR
  · have i1 : (300 : Int) < (s.size : Int) := by omega
    go_enter Try.func5, Try.ntmps5
    go_wp2_with (go_at_call 13; refine (awake12_any _).mono ?_; rintro e w5 ⟨rfl, b5⟩)
    go_ret
    exact ⟨rfl, b5⟩
end Go.Proofs.Ytegoakfhadmblaa
