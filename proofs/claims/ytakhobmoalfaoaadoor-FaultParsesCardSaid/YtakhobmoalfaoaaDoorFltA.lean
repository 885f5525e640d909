/- fault: the words of kinds and formats; which faults may be. -/
import Derived.Test.YtakhobmoalfaoaaDoorSync
namespace Go.Proofs.YtakhobmoalfaoaaDoor
open Go.RowKit
set_option linter.unusedVariables false
set_option linter.unusedSimpArgs false

def kWords : List ByteArray := [⟨#[110, 111, 110, 101]⟩, ⟨#[116, 114, 117, 110, 99, 97, 116, 101, 100]⟩, ⟨#[109, 97, 108, 102, 111, 114, 109, 101, 100]⟩, ⟨#[117, 110, 115, 117, 112, 112, 111, 114, 116, 101, 100]⟩, ⟨#[115, 112, 101, 110, 116]⟩]
def fWords : List ByteArray := [⟨#[117, 110, 107, 110, 111, 119, 110]⟩, ⟨#[98, 109, 112]⟩, ⟨#[116, 103, 97]⟩, ⟨#[112, 110, 109]⟩, ⟨#[105, 99, 111]⟩, ⟨#[113, 111, 105]⟩, ⟨#[102, 102]⟩, ⟨#[112, 99, 120]⟩, ⟨#[115, 117, 110]⟩]
def wordOf (l : List ByteArray) (n : Int) : ByteArray := if 0 ≤ n then l.getD n.toNat ⟨#[]⟩ else ⟨#[]⟩
theorem wordOf_out {l : List ByteArray} {n : Int} (h : n < 0 ∨ (l.length : Int) ≤ n) : wordOf l n = ⟨#[]⟩ := by
  unfold wordOf
  by_cases h0 : 0 ≤ n
  · rw [if_pos h0, List.getD_eq_getElem?_getD, List.getElem?_eq_none (by omega)]; rfl
  · rw [if_neg h0]
def FRight (k f a : Int) : Prop := (k = 0 ∧ f = 0 ∧ a = 0) ∨ (1 ≤ k ∧ k ≤ 4 ∧ 0 ≤ f ∧ f ≤ 8 ∧ 0 ≤ a ∧ a ≤ 4611686018427387904)
instance (k f a : Int) : Decidable (FRight k f a) := by unfold FRight; infer_instance
theorem kindC (n : Int) (w : World) : Calls Tryd.prog 8 #[.int .i64 n] w fun e w' => e = .returned (.string (wordOf kWords n)) ∧ w = w' := by
  by_cases h0 : n = 0
  · subst h0
    go_enter Tryd.func8, Tryd.ntmps8
    go_wp2_with fail
    go_ret
    exact ⟨rfl, rfl⟩
  by_cases h1 : n = 1
  · subst h1
    go_enter Tryd.func8, Tryd.ntmps8
    go_wp2_with fail
    go_ret
    exact ⟨rfl, rfl⟩
  by_cases h2 : n = 2
  · subst h2
    go_enter Tryd.func8, Tryd.ntmps8
    go_wp2_with fail
    go_ret
    exact ⟨rfl, rfl⟩
  by_cases h3 : n = 3
  · subst h3
    go_enter Tryd.func8, Tryd.ntmps8
    go_wp2_with fail
    go_ret
    exact ⟨rfl, rfl⟩
  by_cases h4 : n = 4
  · subst h4
    go_enter Tryd.func8, Tryd.ntmps8
    go_wp2_with fail
    go_ret
    exact ⟨rfl, rfl⟩
  have hw : wordOf kWords n = ⟨#[]⟩ := wordOf_out (by simp only [kWords, List.length_cons, List.length_nil]; omega)
  rw [hw]
  clear hw
  go_enter Tryd.func8, Tryd.ntmps8
  go_wp2_with fail
  go_ret
  exact ⟨rfl, rfl⟩
theorem formatC (n : Int) (w : World) : Calls Tryd.prog 10 #[.int .i64 n] w fun e w' => e = .returned (.string (wordOf fWords n)) ∧ w = w' := by
  by_cases h0 : n = 0
  · subst h0
    go_enter Tryd.func10, Tryd.ntmps10
    go_wp2_with fail
    go_ret
    exact ⟨rfl, rfl⟩
  by_cases h1 : n = 1
  · subst h1
    go_enter Tryd.func10, Tryd.ntmps10
    go_wp2_with fail
    go_ret
    exact ⟨rfl, rfl⟩
  by_cases h2 : n = 2
  · subst h2
    go_enter Tryd.func10, Tryd.ntmps10
    go_wp2_with fail
    go_ret
    exact ⟨rfl, rfl⟩
  by_cases h3 : n = 3
  · subst h3
    go_enter Tryd.func10, Tryd.ntmps10
    go_wp2_with fail
    go_ret
    exact ⟨rfl, rfl⟩
  by_cases h4 : n = 4
  · subst h4
    go_enter Tryd.func10, Tryd.ntmps10
    go_wp2_with fail
    go_ret
    exact ⟨rfl, rfl⟩
  by_cases h5 : n = 5
  · subst h5
    go_enter Tryd.func10, Tryd.ntmps10
    go_wp2_with fail
    go_ret
    exact ⟨rfl, rfl⟩
  by_cases h6 : n = 6
  · subst h6
    go_enter Tryd.func10, Tryd.ntmps10
    go_wp2_with fail
    go_ret
    exact ⟨rfl, rfl⟩
  by_cases h7 : n = 7
  · subst h7
    go_enter Tryd.func10, Tryd.ntmps10
    go_wp2_with fail
    go_ret
    exact ⟨rfl, rfl⟩
  by_cases h8 : n = 8
  · subst h8
    go_enter Tryd.func10, Tryd.ntmps10
    go_wp2_with fail
    go_ret
    exact ⟨rfl, rfl⟩
  have hw : wordOf fWords n = ⟨#[]⟩ := wordOf_out (by simp only [fWords, List.length_cons, List.length_nil]; omega)
  rw [hw]
  clear hw
  go_enter Tryd.func10, Tryd.ntmps10
  go_wp2_with fail
  go_ret
  exact ⟨rfl, rfl⟩
theorem kWord_some {n : Int} (h : 0 ≤ n ∧ n ≤ 4) : ¬ (wordOf kWords n).toList = [] ∧ (wordOf kWords n).toList.isEmpty = false := by
  have : n = 0 ∨ n = 1 ∨ n = 2 ∨ n = 3 ∨ n = 4 := by omega
  rcases this with rfl | rfl | rfl | rfl | rfl <;> (rw [ByteArray.toList_eq]; exact ⟨by decide, by decide⟩)
theorem fWord_some {n : Int} (h : 0 ≤ n ∧ n ≤ 8) : ¬ (wordOf fWords n).toList = [] ∧ (wordOf fWords n).toList.isEmpty = false := by
  have : n = 0 ∨ n = 1 ∨ n = 2 ∨ n = 3 ∨ n = 4 ∨ n = 5 ∨ n = 6 ∨ n = 7 ∨ n = 8 := by omega
  rcases this with rfl | rfl | rfl | rfl | rfl | rfl | rfl | rfl | rfl <;> (rw [ByteArray.toList_eq]; exact ⟨by decide, by decide⟩)
theorem no_word : (⟨#[]⟩ : ByteArray).toList = [] ∧ (⟨#[]⟩ : ByteArray).toList.isEmpty = true := by
  rw [ByteArray.toList_eq]; exact ⟨rfl, rfl⟩
theorem rightC (k f a : Int) (w : World) : Calls Tryd.prog 6 #[.agg #[.int .i64 k, .int .i64 f, .int .i64 a]] w fun e w' => e = .returned (.bool (decide (FRight k f a))) ∧ Below w.heap.size w w' := by
  have HK := Lib.hid (kindC k)
  have HF := Lib.hid (formatC f)
  have HQ := True.intro
  by_cases hk0 : k = 0
  · by_cases hf0 : f = 0
    · by_cases ha0 : a = 0
      · subst hk0 hf0 ha0
        rw [decide_eq_true (show FRight 0 0 0 by unfold FRight; omega)]
        go_enter Tryd.func6, Tryd.ntmps6
        go_wp2_with fail
        go_ret
        exact ⟨rfl, (Below.refl _ _).alloc (Nat.le_refl _) _⟩
      · have ha0' : (a == 0) = false := by rw [beq_eq_false_iff_ne]; exact ha0
        subst hk0 hf0
        rw [decide_eq_false (show ¬ FRight 0 0 a by unfold FRight; omega)]
        go_enter Tryd.func6, Tryd.ntmps6
        go_wp2_with fail
        go_ret
        exact ⟨rfl, (Below.refl _ _).alloc (Nat.le_refl _) _⟩
    · have hf0' : (f == 0) = false := by rw [beq_eq_false_iff_ne]; exact hf0
      subst hk0
      rw [decide_eq_false (show ¬ FRight 0 f a by unfold FRight; omega)]
      go_enter Tryd.func6, Tryd.ntmps6
      go_wp2_with fail
      go_ret
      exact ⟨rfl, (Below.refl _ _).alloc (Nat.le_refl _) _⟩
  · by_cases hk : 0 ≤ k ∧ k ≤ 4
    · obtain ⟨p1, p2⟩ := kWord_some hk
      by_cases hf : 0 ≤ f ∧ f ≤ 8
      · obtain ⟨q1, q2⟩ := fWord_some hf
        generalize wordOf kWords k = wk at p1 p2 HK
        generalize wordOf fWords f = wf at q1 q2 HF
        by_cases h1 : 0 ≤ a
        · by_cases h2 : a ≤ 4611686018427387904
          · rw [decide_eq_true (show FRight k f a by unfold FRight; omega)]
            clear HQ
            go_enter Tryd.func6, Tryd.ntmps6
            go_wp2_with (first | (go_at_call 8; refine (HK.out _).mono ?_; rintro e w' ⟨rfl, rfl⟩) | (go_at_call 10; refine (HF.out _).mono ?_; rintro e w' ⟨rfl, rfl⟩))
            go_ret
            exact ⟨rfl, (Below.refl _ _).alloc (Nat.le_refl _) _⟩
          · have h2b : decide (a ≤ 4611686018427387904) = false := decide_eq_false h2
            rw [decide_eq_false (show ¬ FRight k f a by unfold FRight; omega)]
            clear HQ
            go_enter Tryd.func6, Tryd.ntmps6
            go_wp2_with (first | (go_at_call 8; refine (HK.out _).mono ?_; rintro e w' ⟨rfl, rfl⟩) | (go_at_call 10; refine (HF.out _).mono ?_; rintro e w' ⟨rfl, rfl⟩))
            go_ret
            exact ⟨rfl, (Below.refl _ _).alloc (Nat.le_refl _) _⟩
        · have h1' : a < 0 := by omega
          rw [decide_eq_false (show ¬ FRight k f a by unfold FRight; omega)]
          clear HQ
          go_enter Tryd.func6, Tryd.ntmps6
          go_wp2_with (first | (go_at_call 8; refine (HK.out _).mono ?_; rintro e w' ⟨rfl, rfl⟩) | (go_at_call 10; refine (HF.out _).mono ?_; rintro e w' ⟨rfl, rfl⟩))
          go_ret
          exact ⟨rfl, (Below.refl _ _).alloc (Nat.le_refl _) _⟩
      · have e : wordOf fWords f = ⟨#[]⟩ := wordOf_out (by simp only [fWords, List.length_cons, List.length_nil]; omega)
        obtain ⟨q1, q2⟩ := no_word
        rw [e] at HF
        generalize wordOf kWords k = wk at p1 p2 HK
        rw [decide_eq_false (show ¬ FRight k f a by unfold FRight; omega)]
        clear HQ
        go_enter Tryd.func6, Tryd.ntmps6
        go_wp2_with (first | (go_at_call 8; refine (HK.out _).mono ?_; rintro e w' ⟨rfl, rfl⟩) | (go_at_call 10; refine (HF.out _).mono ?_; rintro e w' ⟨rfl, rfl⟩))
        go_ret
        exact ⟨rfl, (Below.refl _ _).alloc (Nat.le_refl _) _⟩
    · have e : wordOf kWords k = ⟨#[]⟩ := wordOf_out (by simp only [kWords, List.length_cons, List.length_nil]; omega)
      obtain ⟨q1, q2⟩ := no_word
      rw [e] at HK
      rw [decide_eq_false (show ¬ FRight k f a by unfold FRight; omega)]
      clear HQ
      go_enter Tryd.func6, Tryd.ntmps6
      go_wp2_with (go_at_call 8; refine (HK.out _).mono ?_; rintro e w' ⟨rfl, rfl⟩)
      go_ret
      exact ⟨rfl, (Below.refl _ _).alloc (Nat.le_refl _) _⟩
end Go.Proofs.YtakhobmoalfaoaaDoor
