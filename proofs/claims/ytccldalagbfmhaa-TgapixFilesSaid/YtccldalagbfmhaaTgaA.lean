/- tgahead: the small words: packed, plain, colors, depth, alpha, word. -/
import Derived.Test.YtccldalagbfmhaaTgaLaw
import Derived.Test.YtccldalagbfmhaaStride
namespace Go.Proofs.Ytccldalagbfmhaa
open Go.RowKit
set_option linter.unusedVariables false
set_option linter.unusedSimpArgs false

theorem tgaPackedC (k : Nat) (w : World) : Calls Try.prog 42 #[.int .i64 (k : Int)] w fun e w' => e = .returned (.bool (decide (TgaPacked k))) ∧ w = w' := by
  by_cases h1 : 9 ≤ k
  · have h1I : (9 : Int) ≤ (k : Int) := by omega
    by_cases h2 : k ≤ 11
    · have h2I : (k : Int) ≤ 11 := by omega
      rw [decide_eq_true (p := TgaPacked k) ⟨h1, h2⟩]
      go_enter Try.func42, Try.ntmps42
      go_wp2_with fail
      go_ret
      exact ⟨rfl, rfl⟩
    · have h2I : ¬ (k : Int) ≤ 11 := by omega
      rw [decide_eq_false (p := TgaPacked k) (fun h => h2 h.2)]
      go_enter Try.func42, Try.ntmps42
      go_wp2_with fail
      go_ret
      exact ⟨rfl, rfl⟩
  · have h1I : ¬ (9 : Int) ≤ (k : Int) := by omega
    rw [decide_eq_false (p := TgaPacked k) (fun h => h1 h.1)]
    go_enter Try.func42, Try.ntmps42
    go_wp2_with fail
    go_ret
    exact ⟨rfl, rfl⟩
theorem tgaPlainC {k v : Nat} (hk : k ≤ 255) (hv : tgaPlain k = v) (w : World) : Calls Try.prog 41 #[.int .i64 (k : Int)] w fun e w' => e = .returned (.int .i64 (v : Int)) ∧ w = w' := by
  have HP := Lib.hid (fun w => tgaPackedC k w)
  by_cases h : TgaPacked k
  · rw [decide_eq_true h] at HP
    have hv' : (k : Int) - 8 = (v : Int) := by unfold tgaPlain at hv; rw [if_pos h] at hv; unfold TgaPacked at h; omega
    have hkI : (k : Int) ≤ 255 := by omega
    clear hv h
    go_enter Try.func41, Try.ntmps41
    go_wp2_with (go_at_call 42; refine (HP.out _).mono ?_; rintro e w1 ⟨rfl, rfl⟩)
    go_ret
    exact ⟨rfl, rfl⟩
  · rw [decide_eq_false h] at HP
    have hv' : k = v := by unfold tgaPlain at hv; rw [if_neg h] at hv; exact hv
    subst hv'
    clear hv h
    go_enter Try.func41, Try.ntmps41
    go_wp2_with (go_at_call 42; refine (HP.out _).mono ?_; rintro e w1 ⟨rfl, rfl⟩)
    go_ret
    exact ⟨rfl, rfl⟩
theorem tgaColC (n : Nat) (w : World) : Calls Try.prog 44 #[.int .i64 (n : Int)] w fun e w' => e = .returned (.bool (decide (TgaCol n))) ∧ w = w' := by
  have e : ((n : Int) == 15 || (n : Int) == 16 || (n : Int) == 24 || (n : Int) == 32) = decide (TgaCol n) := by
    rw [Bool.eq_iff_iff]
    simp only [Bool.or_eq_true, beq_iff_eq, decide_eq_true_eq]
    unfold TgaCol
    omega
  have E := Lib.hid (ret1 (congrArg Value.bool e))
  clear e
  by_cases h0 : (n : Int) = 15
  · go_enter Try.func44, Try.ntmps44
    go_wp2_with fail
    all_goals go_ret
    all_goals exact ⟨(by rw [← E.out]; simp_all), rfl⟩
  · go_enter Try.func44, Try.ntmps44
    go_wp2_with fail
    all_goals go_ret
    all_goals exact ⟨(by rw [← E.out]; simp_all), rfl⟩
theorem leT_or {c0 c1 : Nat} (h0 : c0 < 256) (h1 : c1 < 256) : bits .or .i64 (c0 : Int) ((c1 : Int) * 256) = ((c0 + 256 * c1 : Nat) : Int) := by
  rw [show (c1 : Int) * 256 = ((2 ^ 8 * c1 : Nat) : Int) by omega, or64 _ _ (by omega) (by omega), Nat.or_comm, ← Nat.two_pow_add_eq_or_of_lt (by omega)]
  omega
set_option maxRecDepth 100000 in
set_option maxHeartbeats 1000000 in
theorem tgaWordC {x : ByteArray} {a v : Nat} (h : a + 2 ≤ x.size) (hs : x.size ≤ 1099511627776) (hv : le2 x a = v) (w : World) : Calls Try.prog 43 #[.string x, .int .i64 (a : Int)] w fun e w' => e = .returned (.int .i64 (v : Int)) ∧ w' = w.drew := by
  have i0 : (a : Int) < (x.size : Int) := by omega
  have i1 : (a : Int) + 1 < (x.size : Int) := by omega
  have n0 : a < x.size := by omega
  have n1 : a + 1 < x.size := by omega
  have c0 : x[a].toNat < 256 := UInt8.toNat_lt _
  have c1 : x[a + 1].toNat < 256 := UInt8.toNat_lt _
  have HE := Lib.hid (leT_or c0 c1)
  have hw1 := IntWalk.i64_in ((a : Int) + 1) (by omega)
  have j1 : 0 ≤ (a : Int) + 1 := by omega
  have t1 : ((a : Int) + 1).toNat = a + 1 := by omega
  have e : v = x[a].toNat + 256 * x[a + 1].toNat := by rw [← hv]; unfold le2; rw [bat_eq n0, bat_eq n1]
  rw [e]
  clear hv e
  go_enter Try.func43, Try.ntmps43
  go_wp2_with fail
  go_region
  go_wp2_with fail
  go_ret
  exact ⟨ret1 (vint HE.out), rfl⟩
theorem tgaDepthC {k b : Nat} (hk : k ≤ 255) (w : World) : Calls Try.prog 45 #[.int .i64 (k : Int), .int .i64 (b : Int)] w fun e w' => e = .returned (.bool (decide (TgaDepth k b))) ∧ w = w' := by
  obtain ⟨v, hv⟩ : ∃ v, tgaPlain k = v := ⟨_, rfl⟩
  have HP := Lib.hid (fun w => tgaPlainC hk hv w)
  have HC := Lib.hid (fun w => tgaColC b w)
  by_cases h : v = 2
  · have hI : (v : Int) = 2 := by omega
    have e : decide (TgaDepth k b) = decide (TgaCol b) := decide_eq_decide.2 (by unfold TgaDepth; rw [hv, if_pos h])
    rw [e]
    clear e hv h
    go_enter Try.func45, Try.ntmps45
    go_wp2_with (first | (go_at_call 41; refine (HP.out _).mono ?_; rintro e w1 ⟨rfl, rfl⟩) | (go_at_call 44; refine (HC.out _).mono ?_; rintro e w2 ⟨rfl, rfl⟩))
    go_ret
    exact ⟨rfl, rfl⟩
  · have hI : ¬ (v : Int) = 2 := by omega
    have e : decide (TgaDepth k b) = decide (b = 8) := decide_eq_decide.2 (by unfold TgaDepth; rw [hv, if_neg h])
    rw [e]
    by_cases h8 : b = 8
    · have h8I : ((b : Int) == 8) = true := by rw [beq_iff_eq]; omega
      rw [decide_eq_true h8]
      clear e hv h h8
      go_enter Try.func45, Try.ntmps45
      go_wp2_with (first | (go_at_call 41; refine (HP.out _).mono ?_; rintro e w1 ⟨rfl, rfl⟩) | fail)
      go_ret
      exact ⟨by first | rfl | (rw [h8I]), rfl⟩
    · have h8I : ((b : Int) == 8) = false := by rw [beq_eq_false_iff_ne]; omega
      rw [decide_eq_false h8]
      clear e hv h h8
      go_enter Try.func45, Try.ntmps45
      go_wp2_with (first | (go_at_call 41; refine (HP.out _).mono ?_; rintro e w1 ⟨rfl, rfl⟩) | fail)
      go_ret
      exact ⟨by first | rfl | (rw [h8I]), rfl⟩
theorem tgaAlphaC (b n : Nat) (w : World) : Calls Try.prog 46 #[.int .i64 (b : Int), .int .i64 (n : Int)] w fun e w' => e = .returned (.bool (decide (TgaAlpha b n))) ∧ w = w' := by
  by_cases h32 : b = 32
  · have b32 : (b : Int) = 32 := by omega
    have c32 : ((b : Int) == 32) = true := by rw [beq_iff_eq]; omega
    have e : ((n : Int) == 0 || (n : Int) == 8) = decide (TgaAlpha b n) := by
      rw [Bool.eq_iff_iff]
      simp only [Bool.or_eq_true, beq_iff_eq, decide_eq_true_eq]
      unfold TgaAlpha
      omega
    have E := Lib.hid (ret1 (congrArg Value.bool e))
    clear e h32
    go_enter Try.func46, Try.ntmps46
    go_wp2_with fail
    all_goals go_ret
    all_goals exact ⟨(by rw [← E.out]; simp_all), rfl⟩
  · have b32 : ¬ (b : Int) = 32 := by omega
    have c32 : ((b : Int) == 32) = false := by rw [beq_eq_false_iff_ne]; omega
    by_cases h16 : b = 16
    · have b16 : (b : Int) = 16 := by omega
      have c16 : ((b : Int) == 16) = true := by rw [beq_iff_eq]; omega
      have e : ((n : Int) == 0 || (n : Int) == 1) = decide (TgaAlpha b n) := by
        rw [Bool.eq_iff_iff]
        simp only [Bool.or_eq_true, beq_iff_eq, decide_eq_true_eq]
        unfold TgaAlpha
        omega
      have E := Lib.hid (ret1 (congrArg Value.bool e))
      clear e h32 h16
      go_enter Try.func46, Try.ntmps46
      go_wp2_with fail
      all_goals go_ret
      all_goals exact ⟨(by rw [← E.out]; simp_all), rfl⟩
    · have b16 : ¬ (b : Int) = 16 := by omega
      have c16 : ((b : Int) == 16) = false := by rw [beq_eq_false_iff_ne]; omega
      have e : ((n : Int) == 0) = decide (TgaAlpha b n) := by
        rw [Bool.eq_iff_iff]
        simp only [beq_iff_eq, decide_eq_true_eq]
        unfold TgaAlpha
        omega
      have E := Lib.hid (ret1 (congrArg Value.bool e))
      clear e h32 h16
      go_enter Try.func46, Try.ntmps46
      go_wp2_with fail
      all_goals go_ret
      all_goals exact ⟨(by rw [← E.out]; try simp_all), rfl⟩
end Go.Proofs.Ytccldalagbfmhaa
