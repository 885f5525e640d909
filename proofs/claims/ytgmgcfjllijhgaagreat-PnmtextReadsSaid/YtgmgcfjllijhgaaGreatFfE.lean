/- farbfeld: Decode. farbfeld: Decode, by any budget. -/
import Derived.Test.YtgmgcfjllijhgaaGreatFfD
namespace Go.Proofs.YtgmgcfjllijhgaaGreat
open Go.RowKit
set_option linter.unusedVariables false
set_option linter.unusedSimpArgs false

/-- what a decoder leaves: as its budget's steps tell -/
def DecPost (fm : Int) (D : Dec) (x : Led) (w w' : World) (p g : Nat) (e : Ending) : Prop :=
  ∃ y, LedAt w' g y ∧ y.Ok ∧ Turn [p, g] w w' ∧
    ((∃ k a : Nat, k ≠ 0 ∧ D.run x = (y, .bad k a) ∧ e = .returned (.tuple #[.pointer none, .agg #[.int .i64 (k : Int), .int .i64 fm, .int .i64 (a : Int)]])) ∨
     (∃ (W H : Nat) (l : List UInt8) (r b d : Nat), D.run x = (y, .img W H l) ∧ e = .returned (.tuple #[.pointer (some ⟨r, 0, none⟩), .agg #[.int .i64 0, .int .i64 0, .int .i64 0]]) ∧ RasAt w' r g b (W : Int) (H : Int) true ∧ BufAt w' b g d l ∧ w.heap.size ≤ r ∧ w.heap.size ≤ b ∧ w.heap.size ≤ d))
theorem give_all {y : Led} {l : List UInt8} {z : Nat} (h : l.length = z) (hb : (z : Int) ≤ y.bytes) : y.give (l.length : Int) = ((y.give (z : Int)).1, true) := by
  rw [h]
  unfold Led.give
  rw [if_neg (by omega)]
end Go.Proofs.YtgmgcfjllijhgaaGreat
namespace Go.Proofs.YtgmgcfjllijhgaaGreat
open Go.RowKit
set_option linter.unusedVariables false
set_option linter.unusedSimpArgs false

theorem ffDec_run_no {s : ByteArray} {x y : Led} (e : x.work 1 = (y, false)) (hb : 0 ≤ y.bytes) : (ffDec s).run x = (y, .bad 4 0) := by
  have hg : (y.give ((0 : Nat) : Int)).1 = y := by
    rw [led_give_yes (by omega) (by omega)]
    cases y; simp
  unfold ffDec
  rw [run_work_no e, hg]
theorem ffDec_run_yes {s : ByteArray} {x y : Led} (e : x.work 1 = (y, true)) : (ffDec s).run x = (if s.size < 16 then Dec.fin (.bad 1 s.size) else match ffHead s with | some f => .fin (.bad f.1 f.2) | none => ffBody s (beN s 8 4) (beN s 12 4)).run y := by
  unfold ffDec
  exact run_work_yes e
end Go.Proofs.YtgmgcfjllijhgaaGreat
