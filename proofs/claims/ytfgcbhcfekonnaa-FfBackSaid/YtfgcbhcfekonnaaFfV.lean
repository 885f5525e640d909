/- The law FfBack. -/
import Derived.Test.YtfgcbhcfekonnaaFfT
import Derived.Test.YtfgcbhcfekonnaaFfU
import Derived.Test.YtfgcbhcfekonnaaImgOpen
namespace Go.Proofs.Ytfgcbhcfekonnaa
open Go.RowKit
set_option linter.unusedVariables false
set_option linter.unusedSimpArgs false

theorem bytes_form {w : World} {a : Option Addr} {n : Nat} {l : List UInt8} (h : BytesAt w a n l) (hn : 0 < n) : ∃ b off, a = some ⟨b, off, none⟩ ∧ n = l.length ∧ (∀ j (hj : j < l.length), w.cell? ⟨b, off + j, none⟩ = some (.int .u8 (l[j].toNat : Int))) ∧ b < w.heap.size := by
  obtain ⟨h1, h0 | ⟨b, off, rfl, hc⟩⟩ := h
  · omega
  · exact ⟨b, off, rfl, h1, hc, World.block_lt_of_cell? w _ (hc 0 (by omega))⟩
theorem ffWrite_no {W H : Int} {a : Option Addr} {n c : Nat} (hR : ¬ RightP W H n) (w : World) :
    Calls Try.prog 34 #[.agg #[.int .i64 W, .int .i64 H, .slice a n c]] w fun e w' => e = .returned (.tuple #[.string ⟨#[]⟩, .int .i64 11]) ∧ Below w.heap.size w w' := by
  have HR := Lib.hid (fun w => right_bool (a := a) (c := c) (decide_eq_false hR) w)
  have HB : Below w.heap.size w (w.alloc (.cells #[.int .i64 W, .int .i64 H, .slice a n c] 46)) := (Below.refl _ _).alloc (Nat.le_refl _) _
  clear hR
  go_enter Try.func34, Try.ntmps34
  go_wp2_with (go_at_call 54; refine (HR.out _).mono ?_; rintro e w1 ⟨rfl, b1⟩)
  go_ret2
  exact ⟨rfl, below_next HB b1⟩
theorem ffBackRun {W H : Nat} {l : List UInt8} (hW : 1 ≤ W ∧ W ≤ 60) (hH : 1 ≤ H ∧ H ≤ 60) (hl : l.length = 4 * (W * H)) (w : World) :
    Calls Try.prog 23 #[.string (strOf (ffFile W H l)), .agg #[.int .i64 16384, .int .i64 16384, .int .i64 262144, .int .i64 1048576], .func (.func 25) #[] #[]] w fun e w' => ∃ g d, e = .returned (.tuple #[.agg #[.int .i64 (W : Int), .int .i64 (H : Int), .slice (some ⟨d, 0, none⟩) l.length l.length], .agg #[.int .i64 0, .int .i64 0, .int .i64 0], .pointer (some ⟨g, 0, none⟩)]) ∧ BytesAt w' (some ⟨d, 0, none⟩) l.length l ∧ Below w.heap.size w w' := by
  obtain ⟨t, u⟩ := back_told (l := l) hW hH hl
  have hN : W * H ≤ 60 * 60 := Nat.mul_le_mul hW.2 hH.2
  refine (ffRunW (s := strOf (ffFile W H l)) (by rw [str_size, file_len]; omega) (by rw [u]; exact hW.2) (by rw [u]; exact hH.2) w).mono ?_
  rintro e w' ⟨g, y, l3, hy, b3, hor⟩
  rw [t] at hor
  rcases hor with ⟨k, a, hk, hr, rfl⟩ | ⟨W', H', l', d, hr, rfl, hb⟩
  · cases hr
  · injection hr with h1 h2 h3
    subst h1 h2 h3
    exact ⟨g, d, rfl, hb, b3⟩
set_option maxRecDepth 100000 in
set_option maxHeartbeats 4000000 in
theorem ffBack_large {w : World} {W H : Int} {a : Option Addr} {n c : Nat} (h : 2000 < n ∨ (n ≤ 2000 ∧ 60 < W) ∨ (n ≤ 2000 ∧ ¬ 60 < W ∧ 60 < H)) :
    Calls Try.prog 7 #[.agg #[.int .i64 W, .int .i64 H, .slice a n c]] w fun e w' => e = .returned (.bool true) ∧ Below w.heap.size w w' := by
  have HB : Below w.heap.size w (w.alloc (.cells #[.int .i64 W, .int .i64 H, .slice a n c] 46)) := (Below.refl _ _).alloc (Nat.le_refl _) _
  rcases h with h | ⟨h, h2⟩ | ⟨h, h2, h3⟩
  · have hI : (2000 : Int) < (n : Int) := by omega
    go_enter Try.func7, Try.ntmps7
    go_wp2_with (go_at_call 21; refine (awake27_any _).mono ?_; rintro e w1 ⟨rfl, b1⟩)
    go_ret
    exact ⟨rfl, below_next HB b1⟩
  · have hI : ¬ (2000 : Int) < (n : Int) := by omega
    go_enter Try.func7, Try.ntmps7
    go_wp2_with (go_at_call 21; refine (awake27_any _).mono ?_; rintro e w1 ⟨rfl, b1⟩)
    go_ret
    exact ⟨rfl, below_next HB b1⟩
  · have hI : ¬ (2000 : Int) < (n : Int) := by omega
    go_enter Try.func7, Try.ntmps7
    go_wp2_with (go_at_call 21; refine (awake27_any _).mono ?_; rintro e w1 ⟨rfl, b1⟩)
    go_ret
    exact ⟨rfl, below_next HB b1⟩
set_option maxRecDepth 100000 in
set_option maxHeartbeats 4000000 in
theorem ffBack_no {w : World} {W H : Int} {a : Option Addr} {n c : Nat} (h1 : n ≤ 2000) (h2 : ¬ 60 < W) (h3 : ¬ 60 < H) (hR : ¬ RightP W H n) :
    Calls Try.prog 7 #[.agg #[.int .i64 W, .int .i64 H, .slice a n c]] w fun e w' => e = .returned (.bool true) ∧ Below w.heap.size w w' := by
  have hI : ¬ (2000 : Int) < (n : Int) := by omega
  have HW := Lib.hid (fun w => ffWrite_no (a := a) (c := c) hR w)
  have HR := Lib.hid (fun w => refRight_bool (a := a) (c := c) (decide_eq_false hR) w)
  have I0 := IB.new w W H a n c
  have HB : Below w.heap.size w (w.alloc (.cells #[.int .i64 W, .int .i64 H, .slice a n c] 46)) := (Below.refl _ _).alloc (Nat.le_refl _) _
  clear hR h1
  go_enter Try.func7, Try.ntmps7
  go_wp2_with (first
    | (go_at_call 34; refine (HW.out _).mono ?_; rintro e w1 ⟨rfl, b1⟩; have I1 : IB w1 w.heap.size W H a n c := Blk.below I0 b1 (Blk.lt I0); obtain ⟨e0, e1, e2, v0, v1, v2, il⟩ := IB.all I1)
    | (go_at_call 35; refine (HR.out _).mono ?_; rintro e w2 ⟨rfl, b2⟩)
    | (go_at_call 21; refine (awake27_any _).mono ?_; rintro e w3 ⟨rfl, b3⟩))
  go_ret
  exact ⟨rfl, below_next (below_next (below_next HB b1) b2) b3⟩
set_option maxRecDepth 100000 in
set_option maxHeartbeats 4000000 in
theorem ffBack_yes {w : World} {W H n c b off : Nat} {l : List UInt8} (h1 : n ≤ 2000) (hW : 1 ≤ W ∧ W ≤ 60) (hH : 1 ≤ H ∧ H ≤ 60) (hR : RightP W H n) (hl : n = l.length) (hb : BytesAt w (some ⟨b, off, none⟩) n l) (hn0 : 0 < n) :
    Calls Try.prog 7 #[.agg #[.int .i64 (W : Int), .int .i64 (H : Int), .slice (some ⟨b, off, none⟩) n c]] w fun e w' => e = .returned (.bool true) ∧ Below w.heap.size w w' := by
  have hI : ¬ (2000 : Int) < (n : Int) := by omega
  have hWI : ¬ (60 : Int) < (W : Int) := by omega
  have hHI : ¬ (60 : Int) < (H : Int) := by omega
  have hll : l.length = 4 * (W * H) := by
    have h := hR.2.2
    rw [← hl]
    have e : (4 * (W : Int) * (H : Int)) = ((4 * (W * H) : Nat) : Int) := by rw [Int.mul_assoc, Int.natCast_mul, Int.natCast_mul]; rfl
    rw [e] at h
    omega
  obtain ⟨b', off', hab, hnl, hcell, hbw⟩ := bytes_form hb hn0
  clear hnl
  injection hab with hab
  injection hab with hab1 hab2
  subst hab1 hab2
  have HW := Lib.hid (fun w' (k : Below w.heap.size w w') => ffWrite_yes (w := w') (c := c) hW.2 hH.2 hR hl (by omega) (fun j hj => (k.cell (p := ⟨b, off + j, none⟩) hbw).trans (hcell j hj)) (Nat.lt_of_lt_of_le hbw k.size))
  have HF := Lib.hid (fun w' (k : Below w.heap.size w w') => refFfWrite (w := w') (c := c) hW.2 hH.2 hl (by omega) (fun j hj => (k.cell (p := ⟨b, off + j, none⟩) hbw).trans (hcell j hj)) (Nat.lt_of_lt_of_le hbw k.size))
  have HR := Lib.hid (fun w => refRight_bool (a := some ⟨b, off, none⟩) (c := c) (decide_eq_true hR) w)
  have HN := Lib.hid (fun w => ffBackRun (l := l) hW hH hll w)
  have HBT := Lib.hid hb
  have HL := Lib.hid hl
  have I0 := IB.new w (W : Int) (H : Int) (some ⟨b, off, none⟩) n c
  have HB : Below w.heap.size w (w.alloc (.cells #[.int .i64 (W : Int), .int .i64 (H : Int), .slice (some ⟨b, off, none⟩) n c] 46)) := (Below.refl _ _).alloc (Nat.le_refl _) _
  generalize strOf (ffFile W H l) = F at HW HF HN
  clear hR h1 hW hH hl hll hb hcell hn0
  go_enter Try.func7, Try.ntmps7
  go_wp2_with (first
    | (go_at_call 34; refine (HW.out _ HB).mono ?_; rintro e w1 ⟨rfl, b1⟩; have I1 : IB w1 w.heap.size (W : Int) (H : Int) (some ⟨b, off, none⟩) n c := Blk.below I0 b1 (Blk.lt I0); have B1 := below_next HB b1; obtain ⟨e0, e1, e2, v0, v1, v2, il⟩ := IB.all I1)
    | (go_at_call 35; refine (HR.out _).mono ?_; rintro e w2 ⟨rfl, b2⟩; have I2 : IB w2 w.heap.size (W : Int) (H : Int) (some ⟨b, off, none⟩) n c := Blk.below I1 b2 (Blk.lt I1); have B2 := below_next B1 b2)
    | (go_at_call 24; refine (wide15 _).mono ?_; rintro e w3 ⟨rfl, b3⟩; have I3 : IB w3 w.heap.size (W : Int) (H : Int) (some ⟨b, off, none⟩) n c := Blk.below I2 b3 (Blk.lt I2); have B3 := below_next B2 b3)
    | (go_at_call 23; refine (HN.out _).mono ?_; rintro e w4 ⟨g, d, rfl, t4, b4⟩; have I4 : IB w4 w.heap.size (W : Int) (H : Int) (some ⟨b, off, none⟩) n c := Blk.below I3 b4 (Blk.lt I3); have B4 := below_next B3 b4; rw [← HL.out] at t4 ⊢; have B5 := B4.alloc B4.size (.cells #[.int .i64 (W : Int), .int .i64 (H : Int), .slice (some ⟨d, 0, none⟩) n n] 46); have HB6 := B5.alloc B5.size (.cells #[.int .i64 0, .int .i64 0, .int .i64 0] 54); clear e0 e1 e2 v0 v1 v2 il; obtain ⟨e0, e1, e2, v0, v1, v2, il⟩ := IB.all I4)
    | (go_at_call 36; refine (HF.out _ HB6).mono ?_; rintro e w5 ⟨rfl, b5⟩; have J5 : IB w5 w4.heap.size (W : Int) (H : Int) (some ⟨d, 0, none⟩) n n := Blk.below (Blk.alloc (Blk.new w4 _ _) _) b5 (by simp; omega); have K5 : FB w5 (w4.heap.size + 1) 0 0 0 := Blk.below (Blk.new_at _ _ _ (by simp)) b5 (by simp); have I5 : IB w5 w.heap.size (W : Int) (H : Int) (some ⟨b, off, none⟩) n c := Blk.below (Blk.alloc (Blk.alloc I4 _) _) b5 (Blk.lt (Blk.alloc (Blk.alloc I4 _) _)); have T5 := ((t4.alloc (.cells #[.int .i64 (W : Int), .int .i64 (H : Int), .slice (some ⟨d, 0, none⟩) n n] 46)).alloc (.cells #[.int .i64 0, .int .i64 0, .int .i64 0] 54)).below b5; have BB := below_next HB6 b5; have M5 := HBT.out.below BB; clear e0 e1 e2 v0 v1 v2 il; obtain ⟨e0, e1, e2, v0, v1, v2, il⟩ := IB.all I5; obtain ⟨f0, f1, f2, u0, u1, u2, fl⟩ := IB.all J5; obtain ⟨c0, c1, c2, z0, z1, z2, kl⟩ := FB.all K5)
    | (go_at_call 29; refine (refSame_bool (same_self _ _ _) T5 M5).mono ?_; rintro e w6 ⟨rfl, b6⟩)
    | (go_at_call 21; refine (awake27_any _).mono ?_; rintro e w8 ⟨rfl, b8⟩))
  go_ret
  exact ⟨rfl, below_next (below_next BB b6) b8⟩
theorem ffBack_said (w : World) (W H : Int) (a : Option Addr) (n c : Nat) (l : List UInt8) (h : fits5 W ∧ fits5 H ∧ BytesAt w a n l ∧ n ≤ c ∧ c ≤ maxLen) :
    Calls Try.prog 7 #[.agg #[.int .i64 W, .int .i64 H, .slice a n c]] w fun e w' => e = .returned (.bool true) ∧ Below w.heap.size w w' := by
  by_cases h1 : 2000 < n
  · exact ffBack_large (.inl h1)
  by_cases h2 : 60 < W
  · exact ffBack_large (.inr (.inl ⟨by omega, h2⟩))
  by_cases h3 : 60 < H
  · exact ffBack_large (.inr (.inr ⟨by omega, h2, h3⟩))
  by_cases hR : RightP W H n
  · obtain ⟨W', rfl⟩ : ∃ k : Nat, W = k := ⟨W.toNat, by have := hR.1; omega⟩
    obtain ⟨H', rfl⟩ : ∃ k : Nat, H = k := ⟨H.toNat, by have := hR.2.1; omega⟩
    have hW1 := hR.1.1
    have hH1 := hR.2.1.1
    have hn0 : 0 < n := by
      have e := hR.2.2
      have e2 : (4 * (W' : Int) * (H' : Int)) = ((4 * (W' * H') : Nat) : Int) := by rw [Int.mul_assoc, Int.natCast_mul, Int.natCast_mul]; rfl
      have e3 : 1 ≤ W' * H' := Nat.mul_le_mul (show 1 ≤ W' by omega) (show 1 ≤ H' by omega)
      rw [e2] at e
      omega
    obtain ⟨b, off, rfl, hl, _, _⟩ := bytes_form h.2.2.1 hn0
    exact ffBack_yes (by omega) ⟨by omega, by omega⟩ ⟨by omega, by omega⟩ hR hl h.2.2.1 hn0
  · exact ffBack_no (by omega) h2 h3 hR
end Go.Proofs.Ytfgcbhcfekonnaa
