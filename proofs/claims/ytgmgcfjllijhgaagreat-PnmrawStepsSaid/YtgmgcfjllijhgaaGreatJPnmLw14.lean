/- The steps of a reading; awake of chapter 14. -/
import Derived.Test.YtgmgcfjllijhgaaGreatJPnmRd14
namespace Go.Proofs.YtgmgcfjllijhgaaGreat
open Go.RowKit
set_option linter.unusedVariables false
set_option linter.unusedSimpArgs false

theorem led_give_steps (x : Led) (n : Int) : (x.give n).1.steps = x.steps := by unfold Led.give; split <;> rfl
theorem led_take_steps (x : Led) (n : Int) : (x.take n).1.steps = x.steps := by
  unfold Led.take
  split
  · rfl
  · split <;> rfl
theorem led_sides_steps (x : Led) (a b : Int) : (x.sides a b).1.steps = x.steps := by
  unfold Led.sides
  split
  · rfl
  · split
    · rfl
    · split <;> rfl
theorem led_work_steps (x : Led) (n : Int) : (x.work n).1.steps ≤ x.steps + (n.toNat : Int) := by
  unfold Led.work
  split
  · show x.steps ≤ _; omega
  · split
    · show x.steps ≤ _; omega
    · show x.steps + n ≤ _; omega
/-- no more steps than the cost -/
theorem Dec.run_steps (d : Dec) : ∀ x : Led, (d.run x).1.steps ≤ x.steps + (d.cost : Int) := by
  induction d with
  | fin r => intro x; show x.steps ≤ x.steps + ((0 : Nat) : Int); omega
  | work n fr a k ih =>
    intro x
    have h := led_work_steps x n
    have e : ((Dec.work n fr a k).cost : Int) = (n.toNat : Int) + (k.cost : Int) := by show ((n.toNat + k.cost : Nat) : Int) = _; omega
    rw [e]
    unfold Dec.run
    split
    · have := ih (x.work n).1; omega
    · show ((x.work n).1.give fr).1.steps ≤ _
      rw [led_give_steps]; omega
  | sides W H a k ih =>
    intro x
    have h := led_sides_steps x W H
    show _ ≤ x.steps + (k.cost : Int)
    unfold Dec.run
    split
    · have := ih (x.sides W H).1; omega
    · show (x.sides W H).1.steps ≤ _; omega
  | take n a k ih =>
    intro x
    have h := led_take_steps x n
    show _ ≤ x.steps + (k.cost : Int)
    unfold Dec.run
    split
    · have := ih (x.take n).1; omega
    · show (x.take n).1.steps ≤ _; omega
  | give n k ih =>
    intro x
    have h := led_give_steps x n
    show _ ≤ x.steps + (k.cost : Int)
    unfold Dec.run
    have := ih (x.give n).1; omega
  | hold n fr a k ih =>
    intro x
    have h := led_take_steps x n
    show _ ≤ x.steps + (k.cost : Int)
    unfold Dec.run
    split
    · have := ih (x.take n).1; omega
    · show ((x.take n).1.give fr).1.steps ≤ _
      rw [led_give_steps]; omega
theorem pnmDec_raw {s : ByteArray} {h : HeadR} (hh : HeadOk s h) (hK : ¬ h.K ≤ 3) : (pnmDec s).cost ≤ s.size + h.W * h.H * 4 + 9 := by
  refine headD_pot (by omega) fun K W H M n e hn => ?_
  obtain rfl : h = ⟨K, W, H, M, n, 0, 0⟩ := hh.is.symm.trans e
  have := bodyD_raw s ⟨K, W, H, M, n, 0, 0⟩ (4 * (W * H)) hK
  show (bodyD s ⟨K, W, H, M, n, 0, 0⟩ (4 * (W * H))).cost + n ≤ s.size + W * H * 4
  have h2 : (bodyD s ⟨K, W, H, M, n, 0, 0⟩ (4 * (W * H))).cost ≤ W * H * 4 := this
  omega
theorem lawSteps {s : ByteArray} {h : HeadR} {wk : Int} {w w' : World} {e : Ending} (hh : HeadOk s h) (hK : ¬ h.K ≤ 3) (hW : h.W ≤ 100) (hH : h.H ≤ 100) (hc : ((s.size + h.W * h.H * 7 + 9 : Nat) : Int) ≤ wk) (p : LawPost s (Led.new 100 100 40000 wk) w w' e) : ∃ g y, LedAt w' g y ∧ y.reason = 0 ∧ y.steps ≤ ((s.size + h.W * h.H * 4 + 9 : Nat) : Int) ∧ Below w.heap.size w w' ∧ LawTold s w' g e := by
  obtain ⟨g, y, z, l, ok, b, hor⟩ := p
  have hk := pnmDec_cost hh
  have hk2 := pnmDec_raw hh hK
  have hst := Dec.run_steps (pnmDec s) (Led.new 100 100 40000 wk)
  have h0 : (Led.new 100 100 40000 wk).steps = 0 := rfl
  have hen := Dec.run_enough (pnmDec s) (Led.new 100 100 40000 wk) s.size 0 rfl (pnmDec_bal s) rfl (pnmDec_may hh hW hH) (by
    show (0 : Int) + ((pnmDec s).cost : Int) ≤ nought wk
    unfold nought
    split <;> omega)
  rcases hor with ⟨kk, fm, aa, aa', hkf, haa, he, run⟩ | ⟨kk, aa, hk, he, run⟩ | ⟨W, H, li, d, run, he, hb⟩
  · rw [run] at hen
    exact absurd rfl (told_ne _ 0 (pnmDec_bal s) hen.1.symm).1
  · rw [run] at hen hst
    have hr := hen.2
    rw [give_reason] at hr
    have hs2 : (y.give (z : Int)).1.steps ≤ (Led.new 100 100 40000 wk).steps + ((pnmDec s).cost : Int) := hst
    rw [led_give_steps] at hs2
    exact ⟨g, y, l, hr, by omega, b, .inl ⟨kk, aa, hk, (told_ne _ 0 (pnmDec_bal s) hen.1.symm).1, hen.1.symm, he⟩⟩
  · rw [run] at hen hst
    have hs2 : y.steps ≤ (Led.new 100 100 40000 wk).steps + ((pnmDec s).cost : Int) := hst
    exact ⟨g, y, l, hen.2, by omega, b, .inr ⟨W, H, li, d, hen.1.symm, he, hb⟩⟩
def lit14 : ByteArray := ⟨#[80, 52, 10, 57, 32, 49, 10, 128, 128]⟩
theorem lit14_head : headAt (nats lit14) = ⟨4, 9, 1, 1, 7, 0, 0⟩ := by decide +kernel
theorem lit14_told : (pnmDec lit14).told = .img 9 1 [0, 0, 0, 255, 255, 255, 255, 255, 255, 255, 255, 255, 255, 255, 255, 255, 255, 255, 255, 255, 255, 255, 255, 255, 255, 255, 255, 255, 255, 255, 255, 255, 0, 0, 0, 255] := by kernel_rfl
theorem awRead14 (w : World) : Calls Tryz.prog 16 #[.string ⟨#[80, 52, 10, 57, 32, 49, 10, 128, 128]⟩, .int .i64 1000] w fun e w' => ∃ g d, e = .returned (imgRet 9 1 d 36 g) ∧ BytesAt w' (some ⟨d, 0, none⟩) 36 [0, 0, 0, 255, 255, 255, 255, 255, 255, 255, 255, 255, 255, 255, 255, 255, 255, 255, 255, 255, 255, 255, 255, 255, 255, 255, 255, 255, 255, 255, 255, 255, 0, 0, 0, 255] ∧ Below w.heap.size w w' := by
  have hh : HeadOk lit14 ⟨4, 9, 1, 1, 7, 0, 0⟩ := by
    have h := headOk_of (s := lit14) (by rw [lit14_head])
    rw [lit14_head] at h
    exact h
  refine (readC14 (s := lit14) (h := ⟨4, 9, 1, 1, 7, 0, 0⟩) (x0 := Led.new 100 100 40000 1000) rfl (by constructor <;> decide) rfl rfl (by decide) hh (by decide) (by decide) (by decide) w).mono ?_
  rintro e w' p
  obtain ⟨g, b, hor⟩ := lawFull hh (by decide) (by decide) (by decide) p
  rcases hor with ⟨kk, aa, _, _, ht, _⟩ | ⟨W, H, l, d, ht, he, hb⟩
  · rw [lit14_told] at ht; cases ht
  · rw [lit14_told] at ht
    injection ht with h1 h2 h3
    subst h1 h2 h3
    exact ⟨g, d, he, hb, b⟩
theorem pix14 {w : World} {d X : Nat} {c : UInt8} (hb : BytesAt w (some ⟨d, 0, none⟩) 36 [0, 0, 0, 255, 255, 255, 255, 255, 255, 255, 255, 255, 255, 255, 255, 255, 255, 255, 255, 255, 255, 255, 255, 255, 255, 255, 255, 255, 255, 255, 255, 255, 0, 0, 0, 255]) (hX : X < 9) (hq : (([0, 0, 0, 255, 255, 255, 255, 255, 255, 255, 255, 255, 255, 255, 255, 255, 255, 255, 255, 255, 255, 255, 255, 255, 255, 255, 255, 255, 255, 255, 255, 255, 0, 0, 0, 255] : List UInt8).drop (4 * X)).take 4 = [c, c, c, 255]) : Calls Tryz.prog 42 #[.agg #[.int .i64 9, .int .i64 1, .slice (some ⟨d, 0, none⟩) 36 36], .int .i64 (X : Int), .int .i64 0] w fun e w' => e = .returned (.tuple #[.agg #[.int .u8 (c.toNat : Int), .int .u8 (c.toNat : Int), .int .u8 (c.toNat : Int), .int .u8 255], .bool true]) ∧ Below w.heap.size w w' := by
  have hc : ∀ j (hj : j < ([0, 0, 0, 255, 255, 255, 255, 255, 255, 255, 255, 255, 255, 255, 255, 255, 255, 255, 255, 255, 255, 255, 255, 255, 255, 255, 255, 255, 255, 255, 255, 255, 0, 0, 0, 255] : List UInt8).length), w.cell? ⟨d, 0 + j, none⟩ = some (.int .u8 ((([0, 0, 0, 255, 255, 255, 255, 255, 255, 255, 255, 255, 255, 255, 255, 255, 255, 255, 255, 255, 255, 255, 255, 255, 255, 255, 255, 255, 255, 255, 255, 255, 0, 0, 0, 255] : List UInt8)[j]'hj).toNat : Int)) := by
    rcases hb.2 with h | ⟨b, off, e, h⟩
    · exact absurd h (by decide)
    · injection e with e
      injection e with e1 e2
      subst e1 e2
      exact h
  exact pixel_yes (W := 9) (H := 1) (X := X) (Y := 0) (p := 0) (i := 4 * X) (by unfold RightP; decide) rfl hc (Nat.le_refl _) hX (by decide) (Nat.zero_mul _) (by omega) (show 4 * X + 4 ≤ 36 by omega) hq
set_option maxRecDepth 100000 in
set_option maxHeartbeats 2000000 in
theorem awake14_any (w : World) : Calls Tryz.prog 14 #[] w fun e w' => e = .returned (.bool true) ∧ Below w.heap.size w w' := by
  have HA := Lib.hid awRead14
  unfold imgRet at HA
  go_enter Tryz.func14, Tryz.ntmps14
  go_upto_region 2 with (go_at_call 16; refine (HA.out _).mono ?_; rintro e w2 ⟨g, d, rfl, hb, b2⟩)
  have T2 : BytesAt ((w2.alloc (.cells #[.int .i64 9, .int .i64 1, .slice (some ⟨d, 0, none⟩) 36 36] 32)).alloc (.cells #[.int .i64 0, .int .i64 0, .int .i64 0] 34)) (some ⟨d, 0, none⟩) 36 [0, 0, 0, 255, 255, 255, 255, 255, 255, 255, 255, 255, 255, 255, 255, 255, 255, 255, 255, 255, 255, 255, 255, 255, 255, 255, 255, 255, 255, 255, 255, 255, 0, 0, 0, 255] := (hb.alloc _).alloc _
  have I2 : IB ((w2.alloc (.cells #[.int .i64 9, .int .i64 1, .slice (some ⟨d, 0, none⟩) 36 36] 32)).alloc (.cells #[.int .i64 0, .int .i64 0, .int .i64 0] 34)) w2.heap.size 9 1 (some ⟨d, 0, none⟩) 36 36 := Blk.alloc (Blk.new _ _ _) _
  have F2 : FB ((w2.alloc (.cells #[.int .i64 9, .int .i64 1, .slice (some ⟨d, 0, none⟩) 36 36] 32)).alloc (.cells #[.int .i64 0, .int .i64 0, .int .i64 0] 34)) (w2.heap.size + 1) 0 0 0 := Blk.new_at _ _ _ (by simp)
  have B2 : Below w.heap.size w ((w2.alloc (.cells #[.int .i64 9, .int .i64 1, .slice (some ⟨d, 0, none⟩) 36 36] 32)).alloc (.cells #[.int .i64 0, .int .i64 0, .int .i64 0] 34)) := (b2.alloc b2.size _).alloc (by have := b2.size; simp; omega) _
  clear hb b2
  generalize (w2.alloc (.cells #[.int .i64 9, .int .i64 1, .slice (some ⟨d, 0, none⟩) 36 36] 32)).alloc (.cells #[.int .i64 0, .int .i64 0, .int .i64 0] 34) = w3 at T2 I2 F2 B2 ⊢
  generalize w2.heap.size + 1 = qf at F2 ⊢
  generalize w2.heap.size = qm at I2 ⊢
  obtain ⟨e0, e1, e2, v0, v1, v2, il⟩ := IB.all I2
  have HP8 := Lib.hid (pix14 (X := 8) (c := 0) T2 (by decide) (by decide))
  go_upto_region 3 with (go_at_call 42; refine HP8.out.mono ?_; rintro e w4 ⟨rfl, b4⟩)
  have T4 := (T2.below b4).alloc (.cells #[.int .u8 0, .int .u8 0, .int .u8 0, .int .u8 255] 59)
  have I4 : IB (w4.alloc (.cells #[.int .u8 0, .int .u8 0, .int .u8 0, .int .u8 255] 59)) qm 9 1 (some ⟨d, 0, none⟩) 36 36 := Blk.alloc (Blk.below I2 b4 (Blk.lt I2)) _
  have F4 : FB (w4.alloc (.cells #[.int .u8 0, .int .u8 0, .int .u8 0, .int .u8 255] 59)) qf 0 0 0 := Blk.alloc (Blk.below F2 b4 (Blk.lt F2)) _
  have C4 : CB (w4.alloc (.cells #[.int .u8 0, .int .u8 0, .int .u8 0, .int .u8 255] 59)) w4.heap.size 0 0 0 255 := Blk.new _ _ _
  have B4' := below_next B2 b4
  have B4 : Below w.heap.size w (w4.alloc (.cells #[.int .u8 0, .int .u8 0, .int .u8 0, .int .u8 255] 59)) := B4'.alloc B4'.size _
  clear T2 I2 F2 B2 B4' b4 HP8 e0 e1 e2 v0 v1 v2 il
  generalize w4.alloc (.cells #[.int .u8 0, .int .u8 0, .int .u8 0, .int .u8 255] 59) = w5 at T4 I4 F4 C4 B4 ⊢
  generalize w4.heap.size = qc at C4 ⊢
  obtain ⟨e0, e1, e2, v0, v1, v2, il⟩ := IB.all I4
  have HP1 := Lib.hid (pix14 (X := 1) (c := 255) T4 (by decide) (by decide))
  go_upto_region 4 with (go_at_call 42; refine HP1.out.mono ?_; rintro e w6 ⟨rfl, b6⟩)
  have F6 : FB (w6.alloc (.cells #[.int .u8 255, .int .u8 255, .int .u8 255, .int .u8 255] 59)) qf 0 0 0 := Blk.alloc (Blk.below F4 b6 (Blk.lt F4)) _
  have C6 : CB (w6.alloc (.cells #[.int .u8 255, .int .u8 255, .int .u8 255, .int .u8 255] 59)) qc 0 0 0 255 := Blk.alloc (Blk.below C4 b6 (Blk.lt C4)) _
  have D6 : CB (w6.alloc (.cells #[.int .u8 255, .int .u8 255, .int .u8 255, .int .u8 255] 59)) w6.heap.size 255 255 255 255 := Blk.new _ _ _
  have B6' := below_next B4 b6
  have B6 : Below w.heap.size w (w6.alloc (.cells #[.int .u8 255, .int .u8 255, .int .u8 255, .int .u8 255] 59)) := B6'.alloc B6'.size _
  clear T4 I4 F4 C4 B4 B6' b6 HP1 e0 e1 e2 v0 v1 v2 il
  generalize w6.alloc (.cells #[.int .u8 255, .int .u8 255, .int .u8 255, .int .u8 255] 59) = w7 at F6 C6 D6 B6 ⊢
  generalize w6.heap.size = qd at D6 ⊢
  obtain ⟨c0, c1, c2, z0, z1, z2, fl⟩ := FB.all F6
  have d0 := C6.c0
  have d1 := C6.c1
  have d2 := C6.c2
  have d3 := C6.c3
  have f0 := D6.c0
  have f1 := D6.c1
  have f2 := D6.c2
  have f3 := D6.c3
  go_wp2_with fail
  go_ret
  exact ⟨rfl, B6⟩
end Go.Proofs.YtgmgcfjllijhgaaGreat
