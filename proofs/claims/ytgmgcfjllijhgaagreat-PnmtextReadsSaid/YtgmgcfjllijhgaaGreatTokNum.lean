/- Number in both cases; same, fresh, awake of chapter 11. -/
import Derived.Test.YtgmgcfjllijhgaaGreatTok4
import Derived.Test.YtgmgcfjllijhgaaGreatTokRef3
namespace Go.Proofs.YtgmgcfjllijhgaaGreat
open Go.RowKit
set_option linter.unusedVariables false
set_option linter.unusedSimpArgs false

theorem bdrewN {B : Nat} {a w : World} (h : Below B a w) (n : Nat) : Below B a (w.drewN n) := ⟨h.os, h.tape, h.output, h.size, h.block⟩
theorem nCost_le (l : List Nat) (a : Nat) (ha : a ≤ l.length) : nCost l a ≤ l.length - a + 2 := by
  have hle := overN_le false (l.drop a)
  rw [List.length_drop] at hle
  unfold nCost
  simp only
  split
  · omega
  · split
    · have h2 := digN_le (l.drop (a + overN false (l.drop a)))
      rw [List.length_drop] at h2
      split <;> omega
    · omega
theorem tokNumber_cases {w : World} {p g : Nat} {s : ByteArray} {a k : Nat} {x : Led} (h : SrcAt w p g s 0 s.size a) (o : SrcOk s 0 s.size a) (hl : LedAt w g (x.used k)) (hx : x.reason = 0) (ok : x.Ok) (hs : x.steps + k + nCost (nats s) a ≤ x.S) :
    (∃ kd pl : Nat, numberAt (nats s) a = ⟨0, 0, 0, kd, pl⟩ ∧ kd ≠ 0 ∧ kd ≤ 2 ∧ pl ≤ s.size ∧ Calls Tryz.prog 81 #[.pointer (some ⟨p, 0, none⟩)] w fun e w' => e = .returned (.tuple #[.int .i64 0, .int .i64 0, .agg #[.int .i64 (kd : Int), .int .i64 3, .int .i64 (pl : Int)]]) ∧ LedAt w' g (x.used (k + nCost (nats s) a)) ∧ Turn [p, g] w w') ∨
    (∃ V f n : Nat, numberAt (nats s) a = ⟨V, f, n, 0, 0⟩ ∧ n ≤ s.size ∧ Calls Tryz.prog 81 #[.pointer (some ⟨p, 0, none⟩)] w fun e w' => e = .returned (.tuple #[.int .i64 (V : Int), .int .i64 (f : Int), .agg #[.int .i64 0, .int .i64 0, .int .i64 0]]) ∧ SrcAt w' p g s 0 s.size n ∧ LedAt w' g (x.used (k + nCost (nats s) a)) ∧ Turn [p, g] w w') := by
  have hlen := nats_len s
  have hal := o.at_
  have hle := overN_le false ((nats s).drop a)
  rw [List.length_drop, hlen] at hle
  obtain ⟨f, hf⟩ : ∃ f, f = a + overN false ((nats s).drop a) := ⟨_, rfl⟩
  unfold nCost at hs ⊢
  unfold numberAt
  simp only [← hf] at hs ⊢
  by_cases h1 : (nats s).length ≤ f
  · rw [if_pos h1] at hs ⊢
    rw [if_pos h1]
    left
    refine ⟨1, s.size, by rw [hlen], by decide, by decide, Nat.le_refl _, ?_⟩
    refine (tokNumber_end h o hl hx ok hf (by omega) (by omega)).mono ?_
    rintro e w' ⟨rfl, _, q2, q3⟩
    exact ⟨rfl, q2, q3⟩
  · rw [if_neg h1] at hs ⊢
    rw [if_neg h1]
    by_cases h2 : isDigit ((nats s).getD f 0) = true
    · rw [if_pos h2] at hs ⊢
      rw [if_pos h2]
      have hdl := digN_le ((nats s).drop f)
      rw [List.length_drop, hlen] at hdl
      right
      refine ⟨_, f, _, rfl, by omega, ?_⟩
      refine (tokNumber_yes (dn := digN ((nats s).drop f)) (dt := if f + digN ((nats s).drop f) < s.size then 1 else 0) h o hl hx ok hf (by omega) h2 rfl rfl (by rw [hlen] at hs; omega)).mono ?_
      rintro e w' ⟨rfl, q1, q2, q3⟩
      rw [hlen]
      exact ⟨rfl, q1, q2, q3⟩
    · rw [if_neg h2] at hs ⊢
      rw [if_neg h2]
      left
      refine ⟨2, f, rfl, by decide, by decide, by omega, ?_⟩
      refine (tokNumber_none h o hl hx ok hf (by omega) (by omega) (bool_no h2)).mono ?_
      rintro e w' ⟨rfl, _, q2, q3⟩
      exact ⟨rfl, q2, q3⟩

def T0 : Led := ⟨0, 0, 0, 100000, 0, 0, 0, 0, 0⟩
theorem T0.ok : T0.Ok := by constructor <;> decide
theorem T0_new : Led.new 0 0 0 100000 = T0 := rfl
end Go.Proofs.YtgmgcfjllijhgaaGreat
