/- fault: the document's words, its Right, its Digits; the library's Itoa. -/
import Derived.Test.YtakhobmoalfaoaaDoorFltB
import Derived.Test.YtakhobmoalfaoaaDoorFltShelf
import Derived.Lib.SmallJoins
import Derived.Deep.RegionHeld3
namespace Go.Proofs.YtakhobmoalfaoaaDoor
open Go.RowKit
set_option linter.unusedVariables false
set_option linter.unusedSimpArgs false

theorem refWord {w : World} {g n len cap : Nat} {v : ByteArray} (hn : n < len) (hc : w.cell? ⟨g, n, none⟩ = some (.string v)) :
    Calls Tryd.prog 17 #[.slice (some ⟨g, 0, none⟩) len cap, .int .i64 (n : Int)] w fun e w' => e = .returned (.string v) ∧ w = w' := by
  have h1 : ¬ (n : Int) < 0 := by omega
  have h2 : ¬ (len : Int) ≤ (n : Int) := by omega
  have h3 : (n : Int) < (len : Int) := by omega
  have h4 : ¬ len ≤ n := by omega
  go_enter Tryd.func17, Tryd.ntmps17
  go_wp2_with fail
  go_ret
  exact ⟨rfl, rfl⟩
theorem refWord_low {w : World} {a : Option Addr} {len cap : Nat} {n : Int} (h : n < 0) :
    Calls Tryd.prog 17 #[.slice a len cap, .int .i64 n] w fun e w' => e = .returned (.string ⟨#[]⟩) ∧ w = w' := by
  go_enter Tryd.func17, Tryd.ntmps17
  go_wp2_with fail
  go_ret
  exact ⟨rfl, rfl⟩
theorem refWord_high {w : World} {a : Option Addr} {len cap : Nat} {n : Int} (h0 : ¬ n < 0) (h : (len : Int) ≤ n) :
    Calls Tryd.prog 17 #[.slice a len cap, .int .i64 n] w fun e w' => e = .returned (.string ⟨#[]⟩) ∧ w = w' := by
  go_enter Tryd.func17, Tryd.ntmps17
  go_wp2_with fail
  go_ret
  exact ⟨rfl, rfl⟩
set_option maxHeartbeats 2000000 in
theorem refKindC (n : Int) (w : World) : Calls Tryd.prog 9 #[.int .i64 n] w fun e w' => e = .returned (.string (wordOf kWords n)) ∧ Below w.heap.size w w' := by
  by_cases h0 : n = 0
  · subst h0
    go_enter Tryd.func9, Tryd.ntmps9
    go_wp2_with (go_at_call 17; refine (refWord (n := 0) (v := ⟨#[110, 111, 110, 101]⟩) (by decide) (cell_new _ _ _ 0 _ rfl)).mono ?_; rintro e w' ⟨rfl, rfl⟩)
    go_ret
    exact ⟨rfl, (Below.refl _ _).alloc (Nat.le_refl _) _⟩
  by_cases h1 : n = 1
  · subst h1
    go_enter Tryd.func9, Tryd.ntmps9
    go_wp2_with (go_at_call 17; refine (refWord (n := 1) (v := ⟨#[116, 114, 117, 110, 99, 97, 116, 101, 100]⟩) (by decide) (cell_new _ _ _ 1 _ rfl)).mono ?_; rintro e w' ⟨rfl, rfl⟩)
    go_ret
    exact ⟨rfl, (Below.refl _ _).alloc (Nat.le_refl _) _⟩
  by_cases h2 : n = 2
  · subst h2
    go_enter Tryd.func9, Tryd.ntmps9
    go_wp2_with (go_at_call 17; refine (refWord (n := 2) (v := ⟨#[109, 97, 108, 102, 111, 114, 109, 101, 100]⟩) (by decide) (cell_new _ _ _ 2 _ rfl)).mono ?_; rintro e w' ⟨rfl, rfl⟩)
    go_ret
    exact ⟨rfl, (Below.refl _ _).alloc (Nat.le_refl _) _⟩
  by_cases h3 : n = 3
  · subst h3
    go_enter Tryd.func9, Tryd.ntmps9
    go_wp2_with (go_at_call 17; refine (refWord (n := 3) (v := ⟨#[117, 110, 115, 117, 112, 112, 111, 114, 116, 101, 100]⟩) (by decide) (cell_new _ _ _ 3 _ rfl)).mono ?_; rintro e w' ⟨rfl, rfl⟩)
    go_ret
    exact ⟨rfl, (Below.refl _ _).alloc (Nat.le_refl _) _⟩
  by_cases h4 : n = 4
  · subst h4
    go_enter Tryd.func9, Tryd.ntmps9
    go_wp2_with (go_at_call 17; refine (refWord (n := 4) (v := ⟨#[115, 112, 101, 110, 116]⟩) (by decide) (cell_new _ _ _ 4 _ rfl)).mono ?_; rintro e w' ⟨rfl, rfl⟩)
    go_ret
    exact ⟨rfl, (Below.refl _ _).alloc (Nat.le_refl _) _⟩
  have hw : wordOf kWords n = ⟨#[]⟩ := wordOf_out (by simp only [kWords, List.length_cons, List.length_nil]; omega)
  rw [hw]
  clear hw
  by_cases hl : n < 0
  · go_enter Tryd.func9, Tryd.ntmps9
    go_wp2_with (go_at_call 17; refine (refWord_low hl).mono ?_; rintro e w' ⟨rfl, rfl⟩)
    go_ret
    exact ⟨rfl, (Below.refl _ _).alloc (Nat.le_refl _) _⟩
  · have hh : ((5 : Nat) : Int) ≤ n := by omega
    go_enter Tryd.func9, Tryd.ntmps9
    go_wp2_with (go_at_call 17; refine (refWord_high hl hh).mono ?_; rintro e w' ⟨rfl, rfl⟩)
    go_ret
    exact ⟨rfl, (Below.refl _ _).alloc (Nat.le_refl _) _⟩
set_option maxHeartbeats 2000000 in
theorem refFormatC (n : Int) (w : World) : Calls Tryd.prog 11 #[.int .i64 n] w fun e w' => e = .returned (.string (wordOf fWords n)) ∧ Below w.heap.size w w' := by
  by_cases h0 : n = 0
  · subst h0
    go_enter Tryd.func11, Tryd.ntmps11
    go_wp2_with (go_at_call 17; refine (refWord (n := 0) (v := ⟨#[117, 110, 107, 110, 111, 119, 110]⟩) (by decide) (cell_new _ _ _ 0 _ rfl)).mono ?_; rintro e w' ⟨rfl, rfl⟩)
    go_ret
    exact ⟨rfl, (Below.refl _ _).alloc (Nat.le_refl _) _⟩
  by_cases h1 : n = 1
  · subst h1
    go_enter Tryd.func11, Tryd.ntmps11
    go_wp2_with (go_at_call 17; refine (refWord (n := 1) (v := ⟨#[98, 109, 112]⟩) (by decide) (cell_new _ _ _ 1 _ rfl)).mono ?_; rintro e w' ⟨rfl, rfl⟩)
    go_ret
    exact ⟨rfl, (Below.refl _ _).alloc (Nat.le_refl _) _⟩
  by_cases h2 : n = 2
  · subst h2
    go_enter Tryd.func11, Tryd.ntmps11
    go_wp2_with (go_at_call 17; refine (refWord (n := 2) (v := ⟨#[116, 103, 97]⟩) (by decide) (cell_new _ _ _ 2 _ rfl)).mono ?_; rintro e w' ⟨rfl, rfl⟩)
    go_ret
    exact ⟨rfl, (Below.refl _ _).alloc (Nat.le_refl _) _⟩
  by_cases h3 : n = 3
  · subst h3
    go_enter Tryd.func11, Tryd.ntmps11
    go_wp2_with (go_at_call 17; refine (refWord (n := 3) (v := ⟨#[112, 110, 109]⟩) (by decide) (cell_new _ _ _ 3 _ rfl)).mono ?_; rintro e w' ⟨rfl, rfl⟩)
    go_ret
    exact ⟨rfl, (Below.refl _ _).alloc (Nat.le_refl _) _⟩
  by_cases h4 : n = 4
  · subst h4
    go_enter Tryd.func11, Tryd.ntmps11
    go_wp2_with (go_at_call 17; refine (refWord (n := 4) (v := ⟨#[105, 99, 111]⟩) (by decide) (cell_new _ _ _ 4 _ rfl)).mono ?_; rintro e w' ⟨rfl, rfl⟩)
    go_ret
    exact ⟨rfl, (Below.refl _ _).alloc (Nat.le_refl _) _⟩
  by_cases h5 : n = 5
  · subst h5
    go_enter Tryd.func11, Tryd.ntmps11
    go_wp2_with (go_at_call 17; refine (refWord (n := 5) (v := ⟨#[113, 111, 105]⟩) (by decide) (cell_new _ _ _ 5 _ rfl)).mono ?_; rintro e w' ⟨rfl, rfl⟩)
    go_ret
    exact ⟨rfl, (Below.refl _ _).alloc (Nat.le_refl _) _⟩
  by_cases h6 : n = 6
  · subst h6
    go_enter Tryd.func11, Tryd.ntmps11
    go_wp2_with (go_at_call 17; refine (refWord (n := 6) (v := ⟨#[102, 102]⟩) (by decide) (cell_new _ _ _ 6 _ rfl)).mono ?_; rintro e w' ⟨rfl, rfl⟩)
    go_ret
    exact ⟨rfl, (Below.refl _ _).alloc (Nat.le_refl _) _⟩
  by_cases h7 : n = 7
  · subst h7
    go_enter Tryd.func11, Tryd.ntmps11
    go_wp2_with (go_at_call 17; refine (refWord (n := 7) (v := ⟨#[112, 99, 120]⟩) (by decide) (cell_new _ _ _ 7 _ rfl)).mono ?_; rintro e w' ⟨rfl, rfl⟩)
    go_ret
    exact ⟨rfl, (Below.refl _ _).alloc (Nat.le_refl _) _⟩
  by_cases h8 : n = 8
  · subst h8
    go_enter Tryd.func11, Tryd.ntmps11
    go_wp2_with (go_at_call 17; refine (refWord (n := 8) (v := ⟨#[115, 117, 110]⟩) (by decide) (cell_new _ _ _ 8 _ rfl)).mono ?_; rintro e w' ⟨rfl, rfl⟩)
    go_ret
    exact ⟨rfl, (Below.refl _ _).alloc (Nat.le_refl _) _⟩
  have hw : wordOf fWords n = ⟨#[]⟩ := wordOf_out (by simp only [fWords, List.length_cons, List.length_nil]; omega)
  rw [hw]
  clear hw
  by_cases hl : n < 0
  · go_enter Tryd.func11, Tryd.ntmps11
    go_wp2_with (go_at_call 17; refine (refWord_low hl).mono ?_; rintro e w' ⟨rfl, rfl⟩)
    go_ret
    exact ⟨rfl, (Below.refl _ _).alloc (Nat.le_refl _) _⟩
  · have hh : ((9 : Nat) : Int) ≤ n := by omega
    go_enter Tryd.func11, Tryd.ntmps11
    go_wp2_with (go_at_call 17; refine (refWord_high hl hh).mono ?_; rintro e w' ⟨rfl, rfl⟩)
    go_ret
    exact ⟨rfl, (Below.refl _ _).alloc (Nat.le_refl _) _⟩
/-- a number's digits, as a text -/
def dec (n : Nat) : ByteArray := ⟨(Lib.decDigits n).toArray⟩
def d10 : ByteArray := ⟨#[48, 49, 50, 51, 52, 53, 54, 55, 56, 57]⟩
theorem dec_one {n : Nat} (h : n < 10) : dec n = d10.extract n (n + 1) := by
  have : n = 0 ∨ n = 1 ∨ n = 2 ∨ n = 3 ∨ n = 4 ∨ n = 5 ∨ n = 6 ∨ n = 7 ∨ n = 8 ∨ n = 9 := by omega
  rcases this with rfl | rfl | rfl | rfl | rfl | rfl | rfl | rfl | rfl | rfl <;> (unfold dec; rw [Lib.decDigits, dif_pos (by decide)]; rfl)
theorem dec_size' : ∀ n : Nat, (Lib.decDigits n).length ≤ n + 1 := by
  intro n
  induction n using Nat.strongRecOn with
  | ind n ih =>
    rw [Lib.decDigits]
    split
    · simp
    · have := ih (n / 10) (by omega)
      rw [List.length_append, List.length_singleton]
      omega
theorem dec_size (n : Nat) : (dec n).size ≤ n + 1 := by
  have := dec_size' n
  unfold dec
  rw [ByteArray.size]
  simpa using this
theorem dec_more {n : Nat} (h : ¬ n < 10) : dec n = dec (n / 10) ++ dec (n % 10) := by
  unfold dec
  rw [Lib.decDigits, dif_neg h, Lib.decDigits.eq_def (n % 10), dif_pos (by omega)]
  apply ByteArray.ext
  simp
set_option maxHeartbeats 1000000 in
theorem refRightC (k f a : Int) (w : World) : Calls Tryd.prog 7 #[.int .i64 k, .int .i64 f, .int .i64 a] w fun e w' => e = .returned (.bool (decide (FRight k f a))) ∧ w = w' := by
  have HQ := True.intro
  by_cases hk0 : k = 0
  · have hk0B : (k == 0) = true := by rw [beq_iff_eq]; exact hk0
    by_cases hf0 : f = 0
    · have hf0B : (f == 0) = true := by rw [beq_iff_eq]; exact hf0
      by_cases ha0 : a = 0
      · have ha0B : (a == 0) = true := by rw [beq_iff_eq]; exact ha0
        rw [decide_eq_true (show FRight k f a by unfold FRight; omega)]
        clear ha0 hf0
        go_enter Tryd.func7, Tryd.ntmps7
        go_wp2_with fail
        go_ret
        exact ⟨rfl, rfl⟩
      · have ha0B : (a == 0) = false := by rw [beq_eq_false_iff_ne]; exact ha0
        rw [decide_eq_false (show ¬ FRight k f a by unfold FRight; omega)]
        clear ha0 hf0
        go_enter Tryd.func7, Tryd.ntmps7
        go_wp2_with fail
        go_ret
        exact ⟨rfl, rfl⟩
    · have hf0B : (f == 0) = false := by rw [beq_eq_false_iff_ne]; exact hf0
      rw [decide_eq_false (show ¬ FRight k f a by unfold FRight; omega)]
      clear hf0
      go_enter Tryd.func7, Tryd.ntmps7
      go_wp2_with fail
      go_ret
      exact ⟨rfl, rfl⟩
  · by_cases c1 : (1 : Int) ≤ k
    · by_cases c2 : k ≤ (4 : Int)
      · by_cases c3 : (0 : Int) ≤ f
        · by_cases c4 : f ≤ (8 : Int)
          · by_cases c5 : (0 : Int) ≤ a
            · by_cases c6 : a ≤ (4611686018427387904 : Int)
              · have c6b : decide (a ≤ (4611686018427387904 : Int)) = true := decide_eq_true c6
                rw [decide_eq_true (show FRight k f a by unfold FRight; omega)]
                go_enter Tryd.func7, Tryd.ntmps7
                go_wp2_with fail
                go_ret
                exact ⟨rfl, rfl⟩
              · have c6b : decide (a ≤ (4611686018427387904 : Int)) = false := decide_eq_false c6
                rw [decide_eq_false (show ¬ FRight k f a by unfold FRight; omega)]
                go_enter Tryd.func7, Tryd.ntmps7
                go_wp2_with fail
                go_ret
                exact ⟨rfl, rfl⟩
            · have c5b : decide ((0 : Int) ≤ a) = false := decide_eq_false c5
              rw [decide_eq_false (show ¬ FRight k f a by unfold FRight; omega)]
              go_enter Tryd.func7, Tryd.ntmps7
              go_wp2_with fail
              go_ret
              exact ⟨rfl, rfl⟩
          · have c4b : decide (f ≤ (8 : Int)) = false := decide_eq_false c4
            rw [decide_eq_false (show ¬ FRight k f a by unfold FRight; omega)]
            go_enter Tryd.func7, Tryd.ntmps7
            go_wp2_with fail
            go_ret
            exact ⟨rfl, rfl⟩
        · have c3b : decide ((0 : Int) ≤ f) = false := decide_eq_false c3
          rw [decide_eq_false (show ¬ FRight k f a by unfold FRight; omega)]
          go_enter Tryd.func7, Tryd.ntmps7
          go_wp2_with fail
          go_ret
          exact ⟨rfl, rfl⟩
      · have c2b : decide (k ≤ (4 : Int)) = false := decide_eq_false c2
        rw [decide_eq_false (show ¬ FRight k f a by unfold FRight; omega)]
        go_enter Tryd.func7, Tryd.ntmps7
        go_wp2_with fail
        go_ret
        exact ⟨rfl, rfl⟩
    · have c1b : decide ((1 : Int) ≤ k) = false := decide_eq_false c1
      rw [decide_eq_false (show ¬ FRight k f a by unfold FRight; omega)]
      go_enter Tryd.func7, Tryd.ntmps7
      go_wp2_with fail
      go_ret
      exact ⟨rfl, rfl⟩
set_option maxHeartbeats 1000000 in
theorem refDigitsC : ∀ (n : Nat), n ≤ 4611686018427387904 → ∀ w : World, Calls Tryd.prog 21 #[.int .i64 (n : Int)] w fun e w' => e = .returned (.string (dec n)) ∧ Below w.heap.size w w' := by
  intro n
  induction n using Nat.strongRecOn with
  | ind n ih =>
    intro hn w
    by_cases h : n < 10
    · have hI : (n : Int) < 10 := by omega
      have h0 : (0 : Int) ≤ (n : Int) := by omega
      have h1 : (n : Int) ≤ 10 := by omega
      rw [dec_one h]
      unfold d10
      have h2 : (n : Int) + 1 = ((n + 1 : Nat) : Int) := by omega
      obtain ⟨m, hm⟩ : ∃ m, n + 1 = m := ⟨_, rfl⟩
      rw [hm] at h2 ⊢
      have h3 : (m : Int) ≤ 10 := by omega
      have h4 : (n : Int) ≤ (m : Int) := by omega
      have h5 : n ≤ m := by omega
      have h6 : m ≤ 10 := by omega
      clear ih hm
      go_enter Tryd.func21, Tryd.ntmps21
      go_wp2_with fail
      go_ret
      exact ⟨rfl, Below.refl _ _⟩
    · have hI : ¬ (n : Int) < 10 := by omega
      have IH := Lib.hid (ih (n / 10) (by omega) (by omega))
      obtain ⟨q, hq⟩ : ∃ q, n / 10 = q := ⟨_, rfl⟩
      rw [dec_more h, hq]
      rw [hq] at IH
      have hqI : (n : Int) / 10 = (q : Int) := by omega
      obtain ⟨r, hr⟩ : ∃ r, n % 10 = r := ⟨_, rfl⟩
      have hr10 : r < 10 := by omega
      rw [hr, dec_one hr10]
      have hrI : (n : Int) % 10 = (r : Int) := by omega
      have h2 : (r : Int) + 1 = ((r + 1 : Nat) : Int) := by omega
      obtain ⟨m, hm⟩ : ∃ m, r + 1 = m := ⟨_, rfl⟩
      rw [hm] at h2 ⊢
      have h3 : (m : Int) ≤ 10 := by omega
      have h4 : (r : Int) ≤ (m : Int) := by omega
      have h5 : r ≤ m := by omega
      have h6 : m ≤ 10 := by omega
      have hsz := dec_size q
      have hex : (d10.extract r m).size ≤ 10 := by rw [ByteArray.size_extract]; have : d10.size = 10 := rfl; omega
      have hA : ∀ w : World, (Op.stringOp .add (dec q) (d10.extract r m)).run Tryd.prog w = .ok (.string (dec q ++ d10.extract r m)) w := fun w => run_string_add_sum w _ _ (by omega)
      unfold d10 at hA ⊢
      have hwq : IntKind.i64.wrap (q : Int) = (q : Int) := IntWalk.i64_in _ (by omega)
      have htm : (n : Int).tmod 10 = (r : Int) := by rw [Int.tmod_eq_emod_of_nonneg (by omega)]; exact hrI
      have hwm : IntKind.i64.wrap (m : Int) = (m : Int) := IntWalk.i64_in _ (by omega)
      have hwr : IntKind.i64.wrap (r : Int) = (r : Int) := IntWalk.i64_in _ (by omega)
      clear ih hm hr hq hsz hex
      go_enter Tryd.func21, Tryd.ntmps21
      go_wp2_with fail
      refine wp_region_held_drew (S := (fun _ => True)) (by kernel_rfl) trivial (fun hHeld => ?_)
      refine wpAnyH_take (i := 0) (v := ?_) rfl (by kernel_rfl) (by kernel_rfl) (by kernel_rfl) (fun _ _ _ h => h) (Or.inl ⟨by kernel_rfl, ?_⟩) (by assumption) ?_
      rotate_left
      · intro w hSw; (try dsimp only at hSw); go_simp; (try with_reducible rfl)
      (try simp only [Act.put, List.setIfInBounds_toArray, List.set_cons_zero, List.set_cons_succ])
      refine wpAnyH_take (i := 1) (v := ?_) rfl (by kernel_rfl) (by kernel_rfl) (by kernel_rfl) (fun _ _ _ h => h) (Or.inl ⟨by kernel_rfl, ?_⟩) (by assumption) ?_
      rotate_left
      · intro w hSw; (try dsimp only at hSw); go_simp; (try with_reducible rfl)
      (try simp only [Act.put, List.setIfInBounds_toArray, List.set_cons_zero, List.set_cons_succ])
      refine wpAnyH_take (i := 3) (v := ?_) rfl (by kernel_rfl) (by kernel_rfl) (by kernel_rfl) (fun _ _ _ h => h) (Or.inl ⟨by kernel_rfl, ?_⟩) (by assumption) ?_
      rotate_left
      · intro w hSw; (try dsimp only at hSw); go_simp; (try with_reducible rfl)
      (try simp only [Act.put, List.setIfInBounds_toArray, List.set_cons_zero, List.set_cons_succ])
      refine wpAnyH_take (i := 4) (v := ?_) rfl (by kernel_rfl) (by kernel_rfl) (by kernel_rfl) (fun _ _ _ h => h) (Or.inl ⟨by kernel_rfl, ?_⟩) (by assumption) ?_
      rotate_left
      · intro w hSw; (try dsimp only at hSw); go_simp; (try with_reducible rfl)
      (try simp only [Act.put, List.setIfInBounds_toArray, List.set_cons_zero, List.set_cons_succ])
      refine wpAnyH_take (i := 5) (v := ?_) rfl (by kernel_rfl) (by kernel_rfl) (by kernel_rfl) (fun _ _ _ h => h) (Or.inl ⟨by kernel_rfl, ?_⟩) (by assumption) ?_
      rotate_left
      · intro w hSw; (try dsimp only at hSw); go_simp; (try with_reducible rfl)
      (try simp only [Act.put, List.setIfInBounds_toArray, List.set_cons_zero, List.set_cons_succ])
      refine wpAnyH_take (i := 6) (v := ?_) rfl (by kernel_rfl) (by kernel_rfl) (by kernel_rfl) (fun _ _ _ h => h) (Or.inl ⟨by kernel_rfl, ?_⟩) (by assumption) ?_
      rotate_left
      · intro w hSw; (try dsimp only at hSw); go_simp; (try with_reducible rfl)
      (try simp only [Act.put, List.setIfInBounds_toArray, List.set_cons_zero, List.set_cons_succ])
      refine wpAnyH_take (i := 7) (v := ?_) rfl (by kernel_rfl) (by kernel_rfl) (by kernel_rfl) (fun _ _ _ h => h) (Or.inl ⟨by kernel_rfl, ?_⟩) (by assumption) ?_
      rotate_left
      · intro w hSw; (try dsimp only at hSw); go_simp; (try with_reducible rfl)
      (try simp only [Act.put, List.setIfInBounds_toArray, List.set_cons_zero, List.set_cons_succ])
      refine wpAnyH_take (i := 8) (v := ?_) rfl (by kernel_rfl) (by kernel_rfl) (by kernel_rfl) (fun _ _ _ h => h) (Or.inl ⟨by kernel_rfl, ?_⟩) (by assumption) ?_
      rotate_left
      · intro w hSw; (try dsimp only at hSw); go_simp; (try with_reducible rfl)
      (try simp only [Act.put, List.setIfInBounds_toArray, List.set_cons_zero, List.set_cons_succ])
      refine wpAnyH_take (i := 9) (v := ?_) rfl (by kernel_rfl) (by kernel_rfl) (by kernel_rfl) (fun _ _ _ h => h) (Or.inl ⟨by kernel_rfl, ?_⟩) (by assumption) ?_
      rotate_left
      · intro w hSw; (try dsimp only at hSw); go_simp; (try with_reducible rfl)
      (try simp only [Act.put, List.setIfInBounds_toArray, List.set_cons_zero, List.set_cons_succ])
      refine wpAnyH_ready (rs := [2]) (by kernel_rfl) (by simp) ?_
      refine AllReadyH.cons rfl (fun K hK => ?_) AllReadyH.nil
      go_simp
      refine (IH.out _).mono ?_
      rintro e w1 ⟨rfl, b1⟩
      refine hK.out _ _ trivial (fun hHeld' => ?_)
      clear hK K hHeld
      have hHeld := hHeld'
      clear hHeld'
      (try simp only [Act.put, List.setIfInBounds_toArray, List.set_cons_zero, List.set_cons_succ])
      refine wpAnyH_take (i := 10) (v := ?_) rfl (by kernel_rfl) (by kernel_rfl) (by kernel_rfl) (fun _ _ _ h => h) (Or.inl ⟨by kernel_rfl, ?_⟩) (by assumption) ?_
      rotate_left
      · intro w hSw; (try dsimp only at hSw); go_simp; (try with_reducible rfl)
      (try simp only [Act.put, List.setIfInBounds_toArray, List.set_cons_zero, List.set_cons_succ])
      refine wpAnyH_take (i := 11) (v := ?_) rfl (by kernel_rfl) (by kernel_rfl) (by kernel_rfl) (fun _ _ _ h => h) (Or.inl ⟨by kernel_rfl, ?_⟩) (by assumption) ?_
      rotate_left
      · intro w hSw; (try dsimp only at hSw); go_simp; (try with_reducible rfl)
      (try simp only [Act.put, List.setIfInBounds_toArray, List.set_cons_zero, List.set_cons_succ])
      refine wpAnyH_done (by kernel_rfl) ?_ _
      (try simp only [List.getElem_toArray, List.getElem_cons_succ, List.getElem_cons_zero, List.set_cons_zero, List.set_cons_succ])
      go_wp2_with fail
      go_ret
      exact ⟨rfl, (Below.refl _ _).drew.trans b1⟩
end Go.Proofs.YtakhobmoalfaoaaDoor
