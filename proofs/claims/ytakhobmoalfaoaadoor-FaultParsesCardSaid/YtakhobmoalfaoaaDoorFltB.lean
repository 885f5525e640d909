/- fault: the number of a word; the document's words. -/
import Derived.Test.YtakhobmoalfaoaaDoorFltA
namespace Go.Proofs.YtakhobmoalfaoaaDoor
open Go.RowKit
set_option linter.unusedVariables false
set_option linter.unusedSimpArgs false

theorem textEq9 (a b : ByteArray) : (a.toList == b.toList) = decide (a = b) := by
  rw [ByteArray.toList_eq, ByteArray.toList_eq]
  by_cases h : a = b
  · subst h; simp
  · rw [decide_eq_false h, beq_eq_false_iff_ne]
    intro e
    exact h (by cases a; cases b; simp at e; rw [e])
/-- a word's number, if it is one -/
def fidx (l : List ByteArray) (wd : ByteArray) : Option Nat := (List.range l.length).find? fun i => wordOf l i = wd
theorem fidx_some {l : List ByteArray} {wd : ByteArray} {i : Nat} (hi : i < l.length) (hn : ∀ j, j < i → wordOf l j ≠ wd) (h : wordOf l i = wd) : fidx l wd = some i := by
  unfold fidx
  rw [List.find?_range_eq_some]
  exact ⟨by simpa using h, List.mem_range.2 hi, fun j hj => by simpa using hn j hj⟩
theorem fidx_none {l : List ByteArray} {wd : ByteArray} (hn : ∀ j, j < l.length → wordOf l j ≠ wd) : fidx l wd = none := by
  unfold fidx
  rw [List.find?_eq_none]
  intro j hj
  rw [List.mem_range] at hj
  simpa using hn j hj
def fidxV (o : Option Nat) : Value := match o with | some i => .tuple #[.int .i64 (i : Int), .bool true] | none => .tuple #[.int .i64 0, .bool false]
set_option maxHeartbeats 1000000 in
theorem findK (wd : ByteArray) (w : World) : Calls Tryd.prog 19 #[.string wd, .func (.func 8) #[] #[]] w fun e w' => e = .returned (fidxV (fidx kWords wd)) ∧ w = w' := by
  go_enter Tryd.func19, Tryd.ntmps19
  go_wp2_with fail
  go_loopg [6] 5 (fun g v wr => ∃ i : Nat, i + g = 5 ∧ v = .int .i64 (i : Int) ∧ wr = w ∧ Hid (∀ j, j < i → wordOf kWords j ≠ wd))
  case atStart => exact ⟨0, by omega, rfl, rfl, Lib.hid (fun j hj => absurd hj (Nat.not_lt_zero j))⟩
  case round =>
    obtain ⟨i, hi, rfl, rfl, hno⟩ := hrel
    have HC := Lib.hid (kindC (i : Int))
    by_cases hlt : i < 5
    · obtain ⟨p1, p2⟩ := kWord_some (n := (i : Int)) (by omega)
      have hte := textEq9 (wordOf kWords i) wd
      obtain ⟨u, hu⟩ : ∃ u, wordOf kWords i = u := ⟨_, rfl⟩
      rw [hu] at HC p1 p2 hte
      by_cases he : u = wd
      · have HR : Hid (fidx kWords wd = some i) := Lib.hid (fidx_some (by show i < 5; exact hlt) hno.out (hu.trans he))
        rw [decide_eq_true he] at hte
        have hiB : (i : Int) ≤ 100 := by omega
        clear hu he hno
        go_wp2_with (go_at_call 8; refine (HC.out _).mono ?_; rintro e w' ⟨rfl, rfl⟩)
        exact bodyPost_ret (v := .tuple #[.int .i64 (i : Int), .bool true]) (by simp [results, Tryd.results19, go_sem]) rfl ⟨by rw [HR.out]; rfl, rfl⟩
      · have HN : Hid (∀ j, j < i + 1 → wordOf kWords j ≠ wd) := Lib.hid (fun j hj => by
          by_cases hji : j = i
          · subst hji; rw [hu]; exact he
          · exact hno.out j (by omega))
        rw [decide_eq_false he] at hte
        have hiB : (i : Int) ≤ 100 := by omega
        clear hu he hno
        go_wp2_with (go_at_call 8; refine (HC.out _).mono ?_; rintro e w' ⟨rfl, rfl⟩)
        go_roundg (5 - (i + 1))
        case measure => omega
        case rel => exact ⟨i + 1, by omega, by go_num, rfl, HN⟩
    · obtain rfl : i = 5 := by omega
      have e0 : wordOf kWords ((5 : Nat) : Int) = ⟨#[]⟩ := wordOf_out (by simp only [kWords, List.length_cons, List.length_nil]; omega)
      rw [e0] at HC
      obtain ⟨p1, p2⟩ := no_word
      have HR : Hid (fidx kWords wd = none) := Lib.hid (fidx_none hno.out)
      clear hno e0
      go_wp2_with (go_at_call 8; refine (HC.out _).mono ?_; rintro e w' ⟨rfl, rfl⟩)
      exact bodyPost_ret (v := .tuple #[.int .i64 0, .bool false]) (by simp [results, Tryd.results19, go_sem]) rfl ⟨by rw [HR.out]; rfl, rfl⟩
set_option maxHeartbeats 1000000 in
theorem findF (wd : ByteArray) (w : World) : Calls Tryd.prog 19 #[.string wd, .func (.func 10) #[] #[]] w fun e w' => e = .returned (fidxV (fidx fWords wd)) ∧ w = w' := by
  go_enter Tryd.func19, Tryd.ntmps19
  go_wp2_with fail
  go_loopg [6] 9 (fun g v wr => ∃ i : Nat, i + g = 9 ∧ v = .int .i64 (i : Int) ∧ wr = w ∧ Hid (∀ j, j < i → wordOf fWords j ≠ wd))
  case atStart => exact ⟨0, by omega, rfl, rfl, Lib.hid (fun j hj => absurd hj (Nat.not_lt_zero j))⟩
  case round =>
    obtain ⟨i, hi, rfl, rfl, hno⟩ := hrel
    have HC := Lib.hid (formatC (i : Int))
    by_cases hlt : i < 9
    · obtain ⟨p1, p2⟩ := fWord_some (n := (i : Int)) (by omega)
      have hte := textEq9 (wordOf fWords i) wd
      obtain ⟨u, hu⟩ : ∃ u, wordOf fWords i = u := ⟨_, rfl⟩
      rw [hu] at HC p1 p2 hte
      by_cases he : u = wd
      · have HR : Hid (fidx fWords wd = some i) := Lib.hid (fidx_some (by show i < 9; exact hlt) hno.out (hu.trans he))
        rw [decide_eq_true he] at hte
        have hiB : (i : Int) ≤ 100 := by omega
        clear hu he hno
        go_wp2_with (go_at_call 10; refine (HC.out _).mono ?_; rintro e w' ⟨rfl, rfl⟩)
        exact bodyPost_ret (v := .tuple #[.int .i64 (i : Int), .bool true]) (by simp [results, Tryd.results19, go_sem]) rfl ⟨by rw [HR.out]; rfl, rfl⟩
      · have HN : Hid (∀ j, j < i + 1 → wordOf fWords j ≠ wd) := Lib.hid (fun j hj => by
          by_cases hji : j = i
          · subst hji; rw [hu]; exact he
          · exact hno.out j (by omega))
        rw [decide_eq_false he] at hte
        have hiB : (i : Int) ≤ 100 := by omega
        clear hu he hno
        go_wp2_with (go_at_call 10; refine (HC.out _).mono ?_; rintro e w' ⟨rfl, rfl⟩)
        go_roundg (9 - (i + 1))
        case measure => omega
        case rel => exact ⟨i + 1, by omega, by go_num, rfl, HN⟩
    · obtain rfl : i = 9 := by omega
      have e0 : wordOf fWords ((9 : Nat) : Int) = ⟨#[]⟩ := wordOf_out (by simp only [fWords, List.length_cons, List.length_nil]; omega)
      rw [e0] at HC
      obtain ⟨p1, p2⟩ := no_word
      have HR : Hid (fidx fWords wd = none) := Lib.hid (fidx_none hno.out)
      clear hno e0
      go_wp2_with (go_at_call 10; refine (HC.out _).mono ?_; rintro e w' ⟨rfl, rfl⟩)
      exact bodyPost_ret (v := .tuple #[.int .i64 0, .bool false]) (by simp [results, Tryd.results19, go_sem]) rfl ⟨by rw [HR.out]; rfl, rfl⟩
end Go.Proofs.YtakhobmoalfaoaaDoor
