/- A raster is made, told with all its ways at once. -/
import Derived.Test.YtgmgcfjllijhgaaGreatWays
import Derived.Test.YtgmgcfjllijhgaaGreatFfE
namespace Go.Proofs.YtgmgcfjllijhgaaGreat
open Go.RowKit
set_option linter.unusedVariables false

/-- the ways of a new raster -/
def NewPost (w w' : World) (g W H a : Nat) (y : Led) (e : Ending) : Prop :=
  ∃ y2, LedAt w' g y2 ∧ y2.Ok ∧ Turn [g] w w' ∧
    ((e = .returned (.tuple #[.pointer none, .int .i64 4]) ∧ y2.reason ≠ 0 ∧ ∀ k, (Dec.sides W H a (.take (4 * (W * H)) a k)).run y = (y2, .bad 4 a)) ∨
     (∃ r b d : Nat, e = .returned (.tuple #[.pointer (some ⟨r, 0, none⟩), .int .i64 0]) ∧ w.heap.size ≤ r ∧ w.heap.size ≤ b ∧ w.heap.size ≤ d ∧ RasAt w' r g b (W : Int) (H : Int) true ∧ BufAt w' b g d (List.replicate (4 * (W * H)) 0) ∧ y2.reason = 0 ∧ y2.bytes = y.bytes + ((4 * (W * H) : Nat) : Int) ∧ ∀ k, (Dec.sides W H a (.take (4 * (W * H)) a k)).run y = k.run y2))
theorem rasNew_ways {w : World} {g W H : Nat} {y : Led} (a : Nat) (h1 : 1 ≤ W) (h2 : W ≤ 16384) (h3 : 1 ≤ H) (h4 : H ≤ 16384) (l : LedAt w g y) (ok : y.Ok) (hr : y.reason = 0) :
    Calls Tryz.prog 38 #[.pointer (some ⟨g, 0, none⟩), .int .i64 (W : Int), .int .i64 (H : Int)] w fun e w' => NewPost w w' g W H a y e := by
  have hN1 : W * H ≤ 16384 * 16384 := Nat.mul_le_mul h2 h4
  have hs : sideHyp (W : Int) (H : Int) := ⟨⟨by omega, by omega⟩, ⟨by omega, by omega⟩⟩
  obtain ⟨y2, v2, hw2⟩ : ∃ y2 v2, y.sides W H = (y2, v2) := ⟨_, _, rfl⟩
  have y2ok : y2.Ok := by have := ok.sides W H; rw [hw2] at this; exact this
  cases v2 with
  | false =>
    obtain ⟨n1, n2⟩ := led_sides_no (x := y) (a := W) (b := H) (by rw [hw2]) hr
    rw [hw2] at n1
    refine (rasNew_sides hs l ok hw2).mono ?_
    rintro e w' ⟨rfl, l', t'⟩
    exact ⟨y2, l', y2ok, t', .inl ⟨rfl, n1, fun k => run_sides_no hw2⟩⟩
  | true =>
    obtain ⟨n1, _⟩ := led_sides_yes (x := y) (a := W) (b := H) (by rw [hw2])
    rw [hw2] at n1
    have n1' : y2 = y := n1
    subst n1'
    obtain ⟨y3, v3, hw3⟩ : ∃ y3 v3, y2.take ((4 * (W * H) : Nat) : Int) = (y3, v3) := ⟨_, _, rfl⟩
    have y3ok : y3.Ok := by have := ok.take ((4 * (W * H) : Nat) : Int); rw [hw3] at this; exact this
    cases v3 with
    | false =>
      obtain ⟨m1, m2⟩ := led_take_no (x := y2) (n := ((4 * (W * H) : Nat) : Int)) (by rw [hw3]) hr
      rw [hw3] at m1
      refine (rasNew_take (y := W * H) (z := 4 * (W * H)) hs rfl (by omega) (by omega) l ok hw2 hw3).mono ?_
      rintro e w' ⟨rfl, l', t'⟩
      exact ⟨y3, l', y3ok, t', .inl ⟨rfl, m1, fun k => by rw [run_sides_yes hw2, run_take_no hw3]⟩⟩
    | true =>
      obtain ⟨_, m1, m2, _⟩ := led_take_yes (x := y2) (n := ((4 * (W * H) : Nat) : Int)) (by rw [hw3])
      rw [hw3] at m1 m2
      refine (rasNew_yes (y := W * H) (z := 4 * (W * H)) hs rfl (by omega) (by omega) l ok hw2 hw3).mono ?_
      rintro e w' ⟨r, b, d, rfl, hr', hb', hd', R', B', l', t'⟩
      exact ⟨y3, l', y3ok, t', .inr ⟨r, b, d, rfl, hr', hb', hd', R', B', m1, m2, fun k => by rw [run_sides_yes hw2, run_take_yes hw3]⟩⟩
end Go.Proofs.YtgmgcfjllijhgaaGreat
