/- A palette's block; New; the law PaletteNew. -/
import Derived.Test.YtncdchaecbndlaaBuf
import Derived.Test.YtncdchaecbndlaaPaletteW
import Derived.Test.YtncdchaecbndlaaFresh
namespace Go.Proofs.Ytncdchaecbndlaa
open Go.RowKit
set_option linter.unusedVariables false

def palCells (b : Nat) (n m : Int) : Array Value := #[.pointer (some ⟨b, 0, none⟩), .int .i64 n, .int .i64 m]
def PalAt (w : World) (p b : Nat) (n m : Int) : Prop := Blk w p 96 (palCells b n m)

theorem palNew_yes {w : World} {g : Nat} {x y : Led} {m : Nat} (h : LedAt w g x) (ok : x.Ok) (e : x.take ((4 * m : Nat) : Int) = (y, true)) (h1 : 1 ≤ m) (h2 : m ≤ 65536) :
    Calls Try.prog 11 #[.pointer (some ⟨g, 0, none⟩), .int .i64 (m : Int)] w fun e w' => ∃ p b d, e = .returned (.tuple #[.pointer (some ⟨p, 0, none⟩), .int .i64 0]) ∧ PalAt w' p b 0 m ∧ BufAt w' b g d (List.replicate (4 * m) 0) ∧ LedAt w' g y ∧ w.heap.size ≤ p ∧ w.heap.size ≤ b ∧ w.heap.size ≤ d ∧ Turn [g] w w' := by
  have n0 : ¬ (m : Int) < 1 := by omega
  have n1 : ¬ (65536 : Int) < (m : Int) := by omega
  have hi : wrap64 (4 * (m : Int)) = 4 * (m : Int) := wrap64_id _ (by omega) (by omega)
  have HM0 := bufMake_yes h ok e (by omega)
  rw [show ((4 * m : Nat) : Int) = 4 * (m : Int) by omega] at HM0
  have HM := Lib.hid HM0
  clear h ok e HM0
  go_enter Try.func11, Try.ntmps11
  go_wp2_with (go_at_call 29; refine HM.out.mono ?_; rintro e w1 ⟨b, d, rfl, m1, m2, m3, m4, m5⟩)
  go_ret2
  have s1 := m5.size
  exact ⟨w1.heap.size, b, d, rfl, (Blk.new _ _ _).eq_ rfl, ⟨m1.blk.alloc _, m1.row.alloc _⟩, Blk.alloc m2 _, s1, m3, m4, m5.alloc _⟩
theorem palNew_no {w : World} {g : Nat} {x y : Led} {m : Nat} (h : LedAt w g x) (ok : x.Ok) (e : x.take ((4 * m : Nat) : Int) = (y, false)) (h1 : 1 ≤ m) (h2 : m ≤ 65536) :
    Calls Try.prog 11 #[.pointer (some ⟨g, 0, none⟩), .int .i64 (m : Int)] w fun e w' => e = .returned (.tuple #[.pointer none, .int .i64 4]) ∧ LedAt w' g y ∧ Turn [g] w w' := by
  have n0 : ¬ (m : Int) < 1 := by omega
  have n1 : ¬ (65536 : Int) < (m : Int) := by omega
  have hi : wrap64 (4 * (m : Int)) = 4 * (m : Int) := wrap64_id _ (by omega) (by omega)
  have HM0 := bufMake_no h ok e (by omega)
  rw [show ((4 * m : Nat) : Int) = 4 * (m : Int) by omega] at HM0
  have HM := Lib.hid HM0
  clear h ok e HM0
  go_enter Try.func11, Try.ntmps11
  go_wp2_with (go_at_call 29; refine HM.out.mono ?_; rintro e w1 ⟨rfl, m2, m5⟩)
  go_ret2
  exact ⟨rfl, m2, m5⟩
theorem palNew_range (a : Addr) (m : Int) (w : World) (h : m < 1 ∨ 65536 < m) :
    Calls Try.prog 11 #[.pointer (some a), .int .i64 m] w fun e w' => e = .returned (.tuple #[.pointer none, .int .i64 2]) ∧ w = w' := by
  by_cases h1 : m < 1
  · go_enter Try.func11, Try.ntmps11
    go_wp2_with fail
    go_ret2
    exact ⟨rfl, rfl⟩
  · have h2 : 65536 < m := by omega
    clear h
    go_enter Try.func11, Try.ntmps11
    go_wp2_with fail
    go_ret2
    exact ⟨rfl, rfl⟩
theorem palNew_nil (m : Int) (w : World) :
    Calls Try.prog 11 #[.pointer none, .int .i64 m] w fun e w' => e = .returned (.tuple #[.pointer none, .int .i64 1]) ∧ w = w' := by
  go_enter Try.func11, Try.ntmps11
  go_wp2_with fail
  go_ret2
  exact ⟨rfl, rfl⟩
theorem palLen_at {w : World} {p b : Nat} {n m : Int} (h : PalAt w p b n m) :
    Calls Try.prog 13 #[.pointer (some ⟨p, 0, none⟩)] w fun e w' => e = .returned (.int .i64 n) ∧ w = w' := by
  have c1 : w.cell? ⟨p, 1, none⟩ = some (.int .i64 n) := Blk.cell h 1
  clear h
  go_enter Try.func13, Try.ntmps13
  go_wp2_with fail
  go_ret
  exact ⟨rfl, rfl⟩

set_option maxRecDepth 100000 in
set_option maxHeartbeats 1000000 in
theorem paletteNew_said (w : World) (B : Int) (hB : (Lit.int .i64 B).wf = true) (m : Int) (hm : (Lit.int .i64 m).wf = true) :
    Calls Try.prog 3 #[.int .i64 B, .int .i64 m] w fun e w' => e = .returned (.bool true) ∧ Below w.heap.size w w' := by
  obtain ⟨B0, B1⟩ := bounds_i64 hB
  obtain ⟨m0, m1⟩ := bounds_i64 hm
  have hok : (Led.new 0 0 B 0).Ok := Led.ok_new (by decide) (by decide) B1 (by decide)
  clear hB hm
  by_cases hr : m < 1 ∨ 65536 < m
  · have hR := Lib.hid hr
    have hd : (decide (m < 1) || decide (65536 < m)) = true := by simpa using hr
    by_cases h1 : m < 1
    all_goals
      have h2 : ¬ m < 1 → 65536 < m := by omega
      clear hr
      go_enter Try.func3, Try.ntmps3
      go_wp2_with (first
        | (go_at_call 11; have := k1; refine (palNew_nil _ _).mono ?_; rintro e w2 ⟨rfl, rfl⟩)
        | (go_at_call 10; refine (ledNew_at (x := Led.new 0 0 B 0) rfl _).mono ?_; rintro e w0 ⟨g, rfl, hgB, h0, b0⟩)
        | (go_at_call 11; refine (palNew_range _ m _ hR.out).mono ?_; rintro e w1 ⟨rfl, rfl⟩; have k1 := trivial)
        | (go_at_call 12; refine (paletteAwake _).mono ?_; rintro e w9 ⟨rfl, ba⟩))
      go_ret
      exact ⟨rfl, below_next b0 ba⟩
  · obtain ⟨k, rfl⟩ : ∃ k : Nat, m = k := ⟨m.toNat, by omega⟩
    have n0 : ¬ (k : Int) < 1 := by omega
    have n1 : ¬ (65536 : Int) < (k : Int) := by omega
    have hi : wrap64 (4 * (k : Int)) = 4 * (k : Int) := wrap64_id _ (by omega) (by omega)
    by_cases ht : B < 4 * (k : Int)
    · have HE := Lib.hid (take_fresh_no (B := B) (n := ((4 * k : Nat) : Int)) (by omega) (nought_lt (by omega) (by omega)))
      have HK := Lib.hid hok
      clear hok hr
      go_enter Try.func3, Try.ntmps3
      go_wp2_with (first
        | (go_at_call 11; have := k1; refine (palNew_nil _ _).mono ?_; rintro e w2 ⟨rfl, rfl⟩)
        | (go_at_call 10; refine (ledNew_at (x := Led.new 0 0 B 0) rfl _).mono ?_; rintro e w0 ⟨g, rfl, hgB, h0, b0⟩)
        | (go_at_call 11; refine (palNew_no h0 HK.out HE.out (by omega) (by omega)).mono ?_; rintro e w1 ⟨rfl, q1, q2⟩; have k1 := trivial)
        | (go_at_call 12; refine (paletteAwake _).mono ?_; rintro e w9 ⟨rfl, ba⟩))
      go_ret
      have s0 := b0.size
      exact ⟨rfl, below_next (Turn.belowNext b0 q2 (by simp; omega) s0) ba⟩
    · have HE := Lib.hid (take_fresh_yes (B := B) (n := ((4 * k : Nat) : Int)) (by omega) (by omega))
      have HK := Lib.hid hok
      have eb : (⟨0, 0, nought B, 0, ((4 * k : Nat) : Int), ((4 * k : Nat) : Int), 0, 0, 0⟩ : Led).bytes = 4 * (k : Int) := by simp
      clear hok hr
      go_enter Try.func3, Try.ntmps3
      go_wp2_with (first
        | (go_at_call 11; have := k1; refine (palNew_nil _ _).mono ?_; rintro e w2 ⟨rfl, rfl⟩)
        | (go_at_call 10; refine (ledNew_at (x := Led.new 0 0 B 0) rfl _).mono ?_; rintro e w0 ⟨g, rfl, hgB, h0, b0⟩)
        | (go_at_call 11; refine (palNew_yes h0 HK.out HE.out (by omega) (by omega)).mono ?_; rintro e w1 ⟨p, b, d, rfl, q1, q2, q3, q4, q5, q6, q7⟩; have k1 := trivial)
        | (go_at_call 13; refine (palLen_at q1).mono ?_; rintro e w2 ⟨rfl, rfl⟩)
        | (go_at_call 14; refine (bytes_at q3 eb).mono ?_; rintro e w2 ⟨rfl, rfl⟩)
        | (go_at_call 12; refine (paletteAwake _).mono ?_; rintro e w9 ⟨rfl, ba⟩))
      go_ret
      have s0 := b0.size
      exact ⟨rfl, below_next (Turn.belowNext b0 q7 (by simp; omega) s0) ba⟩
end Go.Proofs.Ytncdchaecbndlaa
