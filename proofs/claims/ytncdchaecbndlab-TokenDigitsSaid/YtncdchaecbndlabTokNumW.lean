/- awake of chapter 11; the law TokenNumbers. -/
import Derived.Test.YtncdchaecbndlabTokNum
namespace Go.Proofs.Ytncdchaecbndlab
open Go.RowKit
set_option linter.unusedVariables false
set_option linter.unusedSimpArgs false

def awS : ByteArray := ⟨#[32, 35, 120, 10, 49, 50, 32]⟩
theorem awS1 : overN false ((nats awS).drop 0) = 4 := by decide +kernel
theorem awS2 : isDigit (bat awS 4) = true := by decide +kernel
theorem awS3 : digN ((nats awS).drop 4) = 2 := by decide +kernel
theorem awS4 : digV 0 ((nats awS).drop 4) = 12 := by decide +kernel
theorem awB1 : isBlank 32 = true := by decide
theorem awB2 : isBlank 49 = false := by decide
theorem awNumber {w1 : World} {p g : Nat} (h : SrcAt w1 p g awS 0 awS.size 0) (hl : LedAt w1 g T0) : Calls Try.prog 12 #[.pointer (some ⟨p, 0, none⟩)] w1 fun e w' => e = .returned (.tuple #[.int .i64 12, .int .i64 4, .agg #[.int .i64 0, .int .i64 0, .int .i64 0]]) ∧ Turn [p, g] w1 w' := by
  have := tokNumber_yes (k := 0) (f := 4) (dn := 2) (dt := 1) h ⟨Nat.le_refl _, Nat.zero_le _, Nat.le_refl _, by decide⟩ (by rw [Led.used_zero]; exact hl) rfl T0.ok (by rw [awS1]) (by decide) awS2 awS3.symm (by decide) (by decide)
  rw [awS4] at this
  refine this.mono ?_
  rintro e w' ⟨rfl, _, _, q⟩
  exact ⟨rfl, q⟩
set_option maxRecDepth 100000 in
theorem awake11_any (w : World) :
    Calls Try.prog 11 #[] w fun e w' => e = .returned (.bool true) ∧ Below w.heap.size w w' := by
  go_enter Try.func11, Try.ntmps11
  go_wp2_with (first
    | (go_at_call 10; refine (fresh_any awS _).mono ?_; rintro e w1 ⟨p, g, rfl, hp, hg, h1, l1, b1⟩)
    | (go_at_call 12; refine (awNumber h1 l1).mono ?_; rintro e w2 ⟨rfl, t2⟩)
    | (go_at_call 33; have := k9; refine (blank_any 49 _).mono ?_; rintro e w3 ⟨rfl, rfl⟩; rw [awB2])
    | (go_at_call 33; refine (blank_any 32 _).mono ?_; rintro e w3 ⟨rfl, rfl⟩; rw [awB1]; have k9 := trivial))
  go_ret
  have z2 := Turn.belowNext b1 t2 (by simp; omega) b1.size
  exact ⟨rfl, z2.alloc z2.size _⟩

set_option maxRecDepth 100000 in
set_option maxHeartbeats 1000000 in
theorem tokenNumbers_said (w : World) (s : ByteArray) (hs : s.size ≤ maxLen) :
    Calls Try.prog 3 #[.string s] w fun e w' => e = .returned (.bool true) ∧ Below w.heap.size w w' := by
  by_cases hlen : s.size ≤ 300
  · have i1 : ¬ (300 : Int) < (s.size : Int) := by omega
    go_enter Try.func3, Try.ntmps3
    go_wp2_with (go_at_call 10; refine (fresh_any s _).mono ?_; rintro e w1 ⟨p, g, rfl, hp, hg, h1, l1, b1⟩)
    have H1 := Lib.hid h1
    have L1 := Lib.hid l1
    have B1 := Lib.hid b1
    have hpg := h1.ne l1
    clear h1 l1 b1
    go_loopg [4, 23] 100 (fun n av cv wr => ∃ (i a K : Nat), i + n = 100 ∧ cv = .int .i64 (i : Int) ∧ av = .int .i64 (a : Int) ∧ a ≤ s.size ∧ K ≤ 302 * i ∧ SrcAt wr p g s 0 s.size a ∧ LedAt wr g (T0.used K) ∧ Below w.heap.size w wr)
    case atStart => exact ⟨0, 0, 0, by omega, rfl, rfl, by omega, by omega, H1.out, by rw [Led.used_zero]; exact L1.out, B1.out⟩
    case round =>
      obtain ⟨i, a, K, hn, rfl, rfl, ha, hK, h, hl, hb⟩ := hrel
      have HB := Lib.hid hb
      have hsz := hb.size
      by_cases hlt : i < 100
      · have hltI : (i : Int) < 100 := by omega
        have hnc := nCost_le (nats s) a (by rw [nats_len]; omega)
        rw [nats_len] at hnc
        have hR := fun w => refNumber_any s a w ha (by omega)
        obtain ⟨kd, pl, hy, hk0, hk2, hpl, hc⟩ | ⟨V, f, n', hy, hn', hc⟩ := tokNumber_cases h ⟨by omega, ha, Nat.le_refl _, by omega⟩ hl rfl T0.ok (show (0 : Int) + (K : Int) + (nCost (nats s) a : Int) ≤ 100000 by omega)
        · rw [hy] at hR
          have HR : Hid (∀ w : World, Calls Try.prog 13 #[.string s, .int .i64 (a : Int)] w fun e w' => e = .returned (.agg #[.int .i64 0, .int .i64 0, .int .i64 0, .int .i64 (kd : Int), .int .i64 (pl : Int)]) ∧ Below w.heap.size w w') := Lib.hid hR
          clear hR
          have HC := Lib.hid hc
          have hki : ¬ (kd : Int) = 0 := by omega
          clear h hl hb hc hy
          go_wp2_with (first
            | (go_at_call 12; refine HC.out.mono ?_; rintro e w2 ⟨rfl, l2, t2⟩)
            | (go_at_call 13; refine (HR.out _).mono ?_; rintro e w3 ⟨rfl, b3⟩; have hz3 := below_box_size b3; have y0 : w3.cell? ⟨w2.heap.size, 0, none⟩ = some (.int .i64 (kd : Int)) := (b3.cell (p := ⟨w2.heap.size, 0, none⟩) (by simp)).trans (cell_new _ _ _ 0 _ rfl); have y1 : w3.cell? ⟨w2.heap.size, 1, none⟩ = some (.int .i64 3) := (b3.cell (p := ⟨w2.heap.size, 1, none⟩) (by simp)).trans (cell_new _ _ _ 1 _ rfl); have y2 : w3.cell? ⟨w2.heap.size, 2, none⟩ = some (.int .i64 (pl : Int)) := (b3.cell (p := ⟨w2.heap.size, 2, none⟩) (by simp)).trans (cell_new _ _ _ 2 _ rfl))
            | (go_at_call 14; refine (same_bad kd pl hk0 _ _).mono ?_; rintro e w4 ⟨rfl, b4⟩; have hz4 := below_box_size b4; have v3 : w4.cell? ⟨w3.heap.size, 3, none⟩ = some (.int .i64 (kd : Int)) := (b4.cell (p := ⟨w3.heap.size, 3, none⟩) (by simp)).trans (cell_new _ _ _ 3 _ rfl))
            | (go_at_call 11; refine (awake11_any _).mono ?_; rintro e w5 ⟨rfl, b5⟩))
          go_ret
          have z2 := Turn.belowNext HB.out t2 (by simp; omega) HB.out.size
          have z3 := below_next (z2.alloc z2.size _) b3
          have z4 := below_next (z3.alloc z3.size _) b4
          exact ⟨rfl, below_next z4 b5⟩
        · rw [hy] at hR
          have HR : Hid (∀ w : World, Calls Try.prog 13 #[.string s, .int .i64 (a : Int)] w fun e w' => e = .returned (.agg #[.int .i64 (V : Int), .int .i64 (f : Int), .int .i64 (n' : Int), .int .i64 0, .int .i64 0]) ∧ Below w.heap.size w w') := Lib.hid hR
          clear hR
          have HC := Lib.hid hc
          clear h hl hb hc hy
          go_wp2_with (first
            | (go_at_call 12; refine HC.out.mono ?_; rintro e w2 ⟨rfl, s2, l2, t2⟩)
            | (go_at_call 13; refine (HR.out _).mono ?_; rintro e w3 ⟨rfl, b3⟩; have hz3 := below_box_size b3; have y0 : w3.cell? ⟨w2.heap.size, 0, none⟩ = some (.int .i64 0) := (b3.cell (p := ⟨w2.heap.size, 0, none⟩) (by simp)).trans (cell_new _ _ _ 0 _ rfl); have y1 : w3.cell? ⟨w2.heap.size, 1, none⟩ = some (.int .i64 0) := (b3.cell (p := ⟨w2.heap.size, 1, none⟩) (by simp)).trans (cell_new _ _ _ 1 _ rfl); have y2 : w3.cell? ⟨w2.heap.size, 2, none⟩ = some (.int .i64 0) := (b3.cell (p := ⟨w2.heap.size, 2, none⟩) (by simp)).trans (cell_new _ _ _ 2 _ rfl); have s3 := Blk.below s2 (below_box b3) (Blk.lt s2); have l3 := Blk.below l2 (below_box b3) (Blk.lt l2); have s3' : SrcAt (w3.alloc (.cells #[.int .i64 (V : Int), .int .i64 (f : Int), .int .i64 (n' : Int), .int .i64 0, .int .i64 0] 30)) p g s 0 s.size n' := Blk.alloc s3 _)
            | (go_at_call 14; refine (same_ok (V := V) (f := f) (n := n') s3').mono ?_; rintro e w4 ⟨rfl, b4⟩; have hz4 := below_box_size b4; have v3 : w4.cell? ⟨w3.heap.size, 3, none⟩ = some (.int .i64 0) := (b4.cell (p := ⟨w3.heap.size, 3, none⟩) (by simp)).trans (cell_new _ _ _ 3 _ rfl); have v2 : w4.cell? ⟨w3.heap.size, 2, none⟩ = some (.int .i64 (n' : Int)) := (b4.cell (p := ⟨w3.heap.size, 2, none⟩) (by simp)).trans (cell_new _ _ _ 2 _ rfl); have s4 := Blk.below s3 (below_box b4) (Blk.lt s3); have l4 := Blk.below l3 (below_box b4) (Blk.lt l3)))
          go_roundg (100 - (i + 1))
          case measure => omega
          case rel =>
            have z2 := Turn.belowNext HB.out t2 (by simp; omega) HB.out.size
            have z3 := below_next (z2.alloc z2.size _) b3
            have z4 := below_next (z3.alloc z3.size _) b4
            exact ⟨i + 1, n', _, by omega, by go_num, rfl, hn', (by omega), s4, l4, z4⟩
      · obtain rfl : i = 100 := by omega
        clear h hl
        go_wp2_with (go_at_call 11; refine (awake11_any _).mono ?_; rintro e w5 ⟨rfl, b5⟩)
        go_ret
        exact ⟨rfl, below_next HB.out b5⟩
  · have i1 : (300 : Int) < (s.size : Int) := by omega
    go_enter Try.func3, Try.ntmps3
    go_wp2_with (first
      | (go_at_call 10; refine (fresh_any s _).mono ?_; rintro e w1 ⟨p, g, rfl, hp, hg, h1, l1, b1⟩)
      | (go_at_call 11; refine (awake11_any _).mono ?_; rintro e w5 ⟨rfl, b5⟩))
    go_ret
    exact ⟨rfl, below_next b1 b5⟩
end Go.Proofs.Ytncdchaecbndlab
