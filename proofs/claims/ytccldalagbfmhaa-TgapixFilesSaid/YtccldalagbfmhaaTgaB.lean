/- tgapix.kind; the document's color, bad and Kind of TGA. -/
import Derived.Test.YtccldalagbfmhaaTgaLaw
namespace Go.Proofs.Ytccldalagbfmhaa
open Go.RowKit
set_option linter.unusedVariables false
set_option linter.unusedSimpArgs false

theorem refTgaCol (n : Nat) (w : World) : Calls Try.prog 18 #[.int .i64 (n : Int)] w fun e w' => e = .returned (.bool (decide (TgaCol n))) ∧ w = w' := by
  have e : ((n : Int) == 15 || (n : Int) == 16 || (n : Int) == 24 || (n : Int) == 32) = decide (TgaCol n) := by
    rw [Bool.eq_iff_iff]
    simp only [Bool.or_eq_true, beq_iff_eq, decide_eq_true_eq]
    unfold TgaCol
    omega
  have E := Lib.hid (ret1 (congrArg Value.bool e))
  clear e
  by_cases h0 : (n : Int) = 15
  · go_enter Try.func18, Try.ntmps18
    go_wp2_with fail
    all_goals go_ret
    all_goals exact ⟨(by rw [← E.out]; simp_all), rfl⟩
  · go_enter Try.func18, Try.ntmps18
    go_wp2_with fail
    all_goals go_ret
    all_goals exact ⟨(by rw [← E.out]; simp_all), rfl⟩
/-- a head's value, the document's: with a fault's kind and place -/
def tRdV (n m t f c e W H d a : Int) (l p : Bool) (k i : Int) : Value := .agg #[.int .i64 n, .int .i64 m, .int .i64 t, .int .i64 f, .int .i64 c, .int .i64 e, .int .i64 W, .int .i64 H, .int .i64 d, .int .i64 a, .bool l, .bool p, .int .i64 k, .int .i64 i]
theorem refTgaBad (k i : Int) (w : World) : Calls Try.prog 16 #[.int .i64 k, .int .i64 i] w fun e w' => e = .returned (tRdV 0 0 0 0 0 0 0 0 0 0 false false k i) ∧ Below w.heap.size w w' := by
  go_enter Try.func16, Try.ntmps16
  go_wp2_with fail
  exact bodyPost_ret (v := tRdV 0 0 0 0 0 0 0 0 0 0 false false k i) (by simp [results, Try.results16, go_sem, tRdV]) rfl ⟨rfl, (Below.refl _ _).alloc (Nat.le_refl _) _⟩
theorem refTgaKind {n v : Nat} (hv : tgaKind n = v) (w : World) : Calls Try.prog 32 #[.int .i64 (n : Int)] w fun e w' => e = .returned (.int .i64 (v : Int)) ∧ w = w' := by
  subst hv
  unfold tgaKind
  by_cases h24 : n = 24
  · have hI : (n : Int) = 24 := by omega
    rw [if_pos h24]
    go_enter Try.func32, Try.ntmps32
    go_wp2_with fail
    go_ret
    exact ⟨rfl, rfl⟩
  · have hI : ¬ (n : Int) = 24 := by omega
    rw [if_neg h24]
    by_cases h32 : n = 32
    · have hJ : (n : Int) = 32 := by omega
      rw [if_pos h32]
      go_enter Try.func32, Try.ntmps32
      go_wp2_with fail
      go_ret
      exact ⟨rfl, rfl⟩
    · have hJ : ¬ (n : Int) = 32 := by omega
      rw [if_neg h32]
      go_enter Try.func32, Try.ntmps32
      go_wp2_with fail
      go_ret
      exact ⟨rfl, rfl⟩
theorem tgaKindC {n v : Nat} (hc : TgaCol n) (hv : tgaKind n = v) (w : World) : Calls Try.prog 26 #[.int .i64 (n : Int)] w fun e w' => e = .returned (.int .i64 (v : Int)) ∧ w = w' := by
  subst hv
  rcases hc with rfl | rfl | rfl | rfl
  · go_enter Try.func26, Try.ntmps26
    go_wp2_with fail
    go_ret
    exact ⟨rfl, rfl⟩
  · go_enter Try.func26, Try.ntmps26
    go_wp2_with fail
    go_ret
    exact ⟨rfl, rfl⟩
  · go_enter Try.func26, Try.ntmps26
    go_wp2_with fail
    go_ret
    exact ⟨rfl, rfl⟩
  · go_enter Try.func26, Try.ntmps26
    go_wp2_with fail
    go_ret
    exact ⟨rfl, rfl⟩
/-- a head's value, the program's -/
def tHdV (h : TgaHd) : Value := .agg #[.int .i64 (h.name : Int), .bool h.map, .int .i64 (h.typ : Int), .int .i64 (h.first : Int), .int .i64 (h.count : Int), .int .i64 (h.entry : Int), .int .i64 (h.W : Int), .int .i64 (h.H : Int), .int .i64 (h.depth : Int), .int .i64 (h.alpha : Int), .bool h.left, .bool h.top]
def TgaHd.col (h : TgaHd) (k : Nat) : Nat := if h.left then h.W - 1 - k % h.W else k % h.W
def TgaHd.rw (h : TgaHd) (k : Nat) : Nat := if h.top then k / h.W else h.H - 1 - k / h.W
/-- a head's value, the document's, with nothing wrong -/
def tRV (h : TgaHd) : Value := tRdV (h.name : Int) (if h.map then 1 else 0) (h.typ : Int) (h.first : Int) (h.count : Int) (h.entry : Int) (h.W : Int) (h.H : Int) (h.depth : Int) (h.alpha : Int) h.left h.top 0 0
theorem tgaMappedC (h : TgaHd) (w : World) : Calls Try.prog 27 #[tHdV h] w fun e w' => e = .returned (.bool (decide (h.typ = 1 ∨ h.typ = 9))) ∧ Below w.heap.size w w' := by
  obtain ⟨n, m, t, f, c, en, W, H, d, a, l, p⟩ := h
  unfold tHdV
  simp only
  have HB := Lib.hid ((Below.refl w.heap.size w).alloc (Nat.le_refl _) (.cells #[.int .i64 (n : Int), .bool m, .int .i64 (t : Int), .int .i64 (f : Int), .int .i64 (c : Int), .int .i64 (en : Int), .int .i64 (W : Int), .int .i64 (H : Int), .int .i64 (d : Int), .int .i64 (a : Int), .bool l, .bool p] 35))
  by_cases h1 : t = 1
  · have c1 : ((t : Int) == 1) = true := by rw [beq_iff_eq]; omega
    rw [decide_eq_true (p := t = 1 ∨ t = 9) (.inl h1)]
    clear h1
    go_enter Try.func27, Try.ntmps27
    go_wp2_with fail
    exact bodyPost_ret (v := .bool true) (by simp [results, Try.results27, go_sem]) rfl ⟨rfl, HB.out⟩
  · have c1 : ((t : Int) == 1) = false := by rw [beq_eq_false_iff_ne]; omega
    by_cases h9 : t = 9
    · have c9 : ((t : Int) == 9) = true := by rw [beq_iff_eq]; omega
      rw [decide_eq_true (p := t = 1 ∨ t = 9) (.inr h9)]
      clear h1 h9
      go_enter Try.func27, Try.ntmps27
      go_wp2_with fail
      exact bodyPost_ret (v := .bool true) (by simp [results, Try.results27, go_sem, c9]) rfl ⟨rfl, HB.out⟩
    · have c9 : ((t : Int) == 9) = false := by rw [beq_eq_false_iff_ne]; omega
      rw [decide_eq_false (p := t = 1 ∨ t = 9) (by omega)]
      clear h1 h9
      go_enter Try.func27, Try.ntmps27
      go_wp2_with fail
      exact bodyPost_ret (v := .bool false) (by simp [results, Try.results27, go_sem, c9]) rfl ⟨rfl, HB.out⟩
end Go.Proofs.Ytccldalagbfmhaa
