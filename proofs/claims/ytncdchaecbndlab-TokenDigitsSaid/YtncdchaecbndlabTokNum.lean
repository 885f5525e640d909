/- Number in both cases; same, fresh, awake of chapter 11. -/
import Derived.Test.YtncdchaecbndlabTok4
import Derived.Test.YtncdchaecbndlabTokRef3
namespace Go.Proofs.Ytncdchaecbndlab
open Go.RowKit
set_option linter.unusedVariables false
set_option linter.unusedSimpArgs false

theorem bdrewN {B : Nat} {a w : World} (h : Below B a w) (n : Nat) : Below B a (w.drewN n) := ⟨h.os, h.tape, h.output, h.size, h.block⟩
theorem nCost_le (l : List Nat) (a : Nat) (ha : a ≤ l.length) : nCost l a ≤ l.length - a + 2 := by
  have hle := overN_le false (l.drop a)
  rw [List.length_drop] at hle
  unfold nCost
  simp only
  split
  · omega
  · split
    · have h2 := digN_le (l.drop (a + overN false (l.drop a)))
      rw [List.length_drop] at h2
      split <;> omega
    · omega
theorem tokNumber_cases {w : World} {p g : Nat} {s : ByteArray} {a k : Nat} {x : Led} (h : SrcAt w p g s 0 s.size a) (o : SrcOk s 0 s.size a) (hl : LedAt w g (x.used k)) (hx : x.reason = 0) (ok : x.Ok) (hs : x.steps + k + nCost (nats s) a ≤ x.S) :
    (∃ kd pl : Nat, numberAt (nats s) a = ⟨0, 0, 0, kd, pl⟩ ∧ kd ≠ 0 ∧ kd ≤ 2 ∧ pl ≤ s.size ∧ Calls Try.prog 12 #[.pointer (some ⟨p, 0, none⟩)] w fun e w' => e = .returned (.tuple #[.int .i64 0, .int .i64 0, .agg #[.int .i64 (kd : Int), .int .i64 3, .int .i64 (pl : Int)]]) ∧ LedAt w' g (x.used (k + nCost (nats s) a)) ∧ Turn [p, g] w w') ∨
    (∃ V f n : Nat, numberAt (nats s) a = ⟨V, f, n, 0, 0⟩ ∧ n ≤ s.size ∧ Calls Try.prog 12 #[.pointer (some ⟨p, 0, none⟩)] w fun e w' => e = .returned (.tuple #[.int .i64 (V : Int), .int .i64 (f : Int), .agg #[.int .i64 0, .int .i64 0, .int .i64 0]]) ∧ SrcAt w' p g s 0 s.size n ∧ LedAt w' g (x.used (k + nCost (nats s) a)) ∧ Turn [p, g] w w') := by
  have hlen := nats_len s
  have hal := o.at_
  have hle := overN_le false ((nats s).drop a)
  rw [List.length_drop, hlen] at hle
  obtain ⟨f, hf⟩ : ∃ f, f = a + overN false ((nats s).drop a) := ⟨_, rfl⟩
  unfold nCost at hs ⊢
  unfold numberAt
  simp only [← hf] at hs ⊢
  by_cases h1 : (nats s).length ≤ f
  · rw [if_pos h1] at hs ⊢
    rw [if_pos h1]
    left
    refine ⟨1, s.size, by rw [hlen], by decide, by decide, Nat.le_refl _, ?_⟩
    refine (tokNumber_end h o hl hx ok hf (by omega) (by omega)).mono ?_
    rintro e w' ⟨rfl, _, q2, q3⟩
    exact ⟨rfl, q2, q3⟩
  · rw [if_neg h1] at hs ⊢
    rw [if_neg h1]
    by_cases h2 : isDigit ((nats s).getD f 0) = true
    · rw [if_pos h2] at hs ⊢
      rw [if_pos h2]
      have hdl := digN_le ((nats s).drop f)
      rw [List.length_drop, hlen] at hdl
      right
      refine ⟨_, f, _, rfl, by omega, ?_⟩
      refine (tokNumber_yes (dn := digN ((nats s).drop f)) (dt := if f + digN ((nats s).drop f) < s.size then 1 else 0) h o hl hx ok hf (by omega) h2 rfl rfl (by rw [hlen] at hs; omega)).mono ?_
      rintro e w' ⟨rfl, q1, q2, q3⟩
      rw [hlen]
      exact ⟨rfl, q1, q2, q3⟩
    · rw [if_neg h2] at hs ⊢
      rw [if_neg h2]
      left
      refine ⟨2, f, rfl, by decide, by decide, by omega, ?_⟩
      refine (tokNumber_none h o hl hx ok hf (by omega) (by omega) (bool_no h2)).mono ?_
      rintro e w' ⟨rfl, _, q2, q3⟩
      exact ⟨rfl, q2, q3⟩

def T0 : Led := ⟨0, 0, 0, 100000, 0, 0, 0, 0, 0⟩
theorem T0.ok : T0.Ok := by constructor <;> decide
theorem T0_new : Led.new 0 0 0 100000 = T0 := rfl
theorem fresh_any (s : ByteArray) (w : World) : Calls Try.prog 10 #[.string s] w fun e w' => ∃ p g, e = .returned (.pointer (some ⟨p, 0, none⟩)) ∧ w.heap.size ≤ p ∧ w.heap.size ≤ g ∧ SrcAt w' p g s 0 s.size 0 ∧ LedAt w' g T0 ∧ Below w.heap.size w w' := by
  go_enter Try.func10, Try.ntmps10
  go_wp2_with (first
    | (go_at_call 18; refine (ledNew_at T0_new _).mono ?_; rintro e w0 ⟨g, rfl, hgB, h0, b0⟩)
    | (go_at_call 19; refine (srcNew_any g s _).mono ?_; rintro e w1 ⟨p, rfl, hp, h1, b1⟩))
  go_ret
  exact ⟨p, g, rfl, by have := b0.size; omega, hgB, h1, Blk.below h0 b1 (Blk.lt h0), below_next b0 b1⟩

set_option maxRecDepth 100000 in
theorem same_bad (kd pl : Nat) (hk : kd ≠ 0) (v : Value) (w : World) :
    Calls Try.prog 14 #[.int .i64 0, .int .i64 0, .agg #[.int .i64 (kd : Int), .int .i64 3, .int .i64 (pl : Int)], v, gotV ⟨0, 0, 0, kd, pl⟩] w fun e w' => e = .returned (.bool true) ∧ Below w.heap.size w w' := by
  have hki : ¬ (kd : Int) = 0 := by omega
  unfold gotV
  go_enter Try.func14, Try.ntmps14
  go_wp2_with fail
  go_ret
  exact ⟨rfl, ((Below.refl _ _).alloc (Nat.le_refl _) _).alloc (by simp) _⟩
set_option maxRecDepth 100000 in
theorem same_ok {V f n : Nat} {w : World} {p g : Nat} {s : ByteArray} {t : Nat} (h : SrcAt w p g s 0 t n) :
    Calls Try.prog 14 #[.int .i64 (V : Int), .int .i64 (f : Int), .agg #[.int .i64 0, .int .i64 0, .int .i64 0], .pointer (some ⟨p, 0, none⟩), gotV ⟨V, f, n, 0, 0⟩] w fun e w' => e = .returned (.bool true) ∧ Below w.heap.size w w' := by
  have LA : Hid (SrcAt ((w.alloc (.cells #[.int .i64 0, .int .i64 0, .int .i64 0] 26)).alloc (.cells #[.int .i64 (V : Int), .int .i64 (f : Int), .int .i64 (n : Int), .int .i64 0, .int .i64 0] 30)) p g s 0 t n) := Lib.hid (Blk.alloc (Blk.alloc h _) _)
  clear h
  unfold gotV
  go_enter Try.func14, Try.ntmps14
  go_wp2_with fail
  go_quiet ((first | (go_at_call 17; exact Calls.quiet_of_same ((srcAt_at (p := p) (g := g) (s := s) (f := 0) (t := t) (a := n) (by exact LA.out)).mono fun _ _ ⟨h, k⟩ => ⟨h, k.symm⟩)) | fail))
  go_wp2_with fail
  go_ret
  exact ⟨rfl, bdrewN (((Below.refl _ _).alloc (Nat.le_refl _) _).alloc (by simp) _) _⟩
end Go.Proofs.Ytncdchaecbndlab
