/- The law TokenDigits. -/
import Derived.Test.YtncdchaecbndlabTok5
import Derived.Test.YtncdchaecbndlabTokRef2
namespace Go.Proofs.Ytncdchaecbndlab
open Go.RowKit
set_option linter.unusedVariables false
set_option linter.unusedSimpArgs false

theorem tokDigit_cases {w : World} {p g : Nat} {s : ByteArray} {a k : Nat} {x : Led} (h : SrcAt w p g s 0 s.size a) (o : SrcOk s 0 s.size a) (hl : LedAt w g (x.used k)) (hx : x.reason = 0) (ok : x.Ok) (hs : x.steps + k + (s.size - a + 2 : Nat) ≤ x.S) :
    (∃ kd pl : Nat, digitAt (nats s) a = ⟨0, 0, 0, kd, pl⟩ ∧ kd ≠ 0 ∧ Calls Try.prog 21 #[.pointer (some ⟨p, 0, none⟩)] w fun e w' => e = .returned (.tuple #[.int .i64 0, .int .i64 0, .agg #[.int .i64 (kd : Int), .int .i64 3, .int .i64 (pl : Int)]]) ∧ Turn [p, g] w w') ∨
    (∃ V f j : Nat, digitAt (nats s) a = ⟨V, f, f + 1, 0, 0⟩ ∧ f + 1 ≤ s.size ∧ j ≤ k + (s.size - a + 2) ∧ Calls Try.prog 21 #[.pointer (some ⟨p, 0, none⟩)] w fun e w' => e = .returned (.tuple #[.int .i64 (V : Int), .int .i64 (f : Int), .agg #[.int .i64 0, .int .i64 0, .int .i64 0]]) ∧ SrcAt w' p g s 0 s.size (f + 1) ∧ LedAt w' g (x.used j) ∧ Turn [p, g] w w') := by
  have hlen := nats_len s
  have hal := o.at_
  have hle := overN_le false ((nats s).drop a)
  rw [List.length_drop, hlen] at hle
  obtain ⟨f, hf⟩ : ∃ f, f = a + overN false ((nats s).drop a) := ⟨_, rfl⟩
  unfold digitAt
  simp only [← hf]
  by_cases h1 : (nats s).length ≤ f
  · rw [if_pos h1]
    left
    refine ⟨1, s.size, by rw [hlen], by decide, ?_⟩
    refine (tokDigit_end h o hl hx ok hf (by omega) (by omega)).mono ?_
    rintro e w' ⟨rfl, _, q2, q3⟩
    exact ⟨rfl, q3⟩
  · rw [if_neg h1]
    by_cases h2 : (nats s).getD f 0 = 48 ∨ (nats s).getD f 0 = 49
    · rw [if_pos h2]
      right
      rcases h2 with h2 | h2
      · refine ⟨0, f, k + (f - a + 2), by rw [h2], by omega, by omega, (tokDigit_yes48 h o hl hx ok hf (by omega) (by omega) h2).mono ?_⟩
        rintro e w' ⟨rfl, q1, q2, q3⟩
        exact ⟨rfl, q1, q2, q3⟩
      · refine ⟨1, f, k + (f - a + 2), by rw [h2], by omega, by omega, (tokDigit_yes49 h o hl hx ok hf (by omega) (by omega) h2).mono ?_⟩
        rintro e w' ⟨rfl, q1, q2, q3⟩
        exact ⟨rfl, q1, q2, q3⟩
    · rw [if_neg h2]
      left
      refine ⟨2, f, rfl, by decide, ?_⟩
      refine (tokDigit_none h o hl hx ok hf (by omega) (by omega) h2).mono ?_
      rintro e w' ⟨rfl, _, q2, q3⟩
      exact ⟨rfl, q3⟩

theorem empty_of {s : ByteArray} (h : s.size = 0) : s = (⟨#[]⟩ : ByteArray) := by
  have e : s.data.toList = [] := List.eq_nil_of_length_eq_zero (by rw [list_len]; exact h)
  rw [← strOf_of s, e]
  rfl
/-- what stands behind the loop -/
def TailOk (s : ByteArray) : Prop := (s.size = 0) ∨ (0 < s.size ∧ isBlank (bat s 0) = false) ∨ (0 < s.size ∧ isBlank (bat s 0) = true)

set_option maxRecDepth 100000 in
set_option maxHeartbeats 800000 in
theorem tokenDigits_walk (w : World) (s : ByteArray) (hlen : s.size ≤ 300) (ht : TailOk s) :
    Calls Try.prog 6 #[.string s] w fun e w' => e = .returned (.bool true) ∧ Below w.heap.size w w' := by
  have i1 : ¬ (300 : Int) < (s.size : Int) := by omega
  rcases ht with hz | ⟨hz, hbl⟩ | ⟨hz, hbl⟩
  · skip
    have hse : s.toList.isEmpty = true := by rw [ByteArray.toList_eq, List.eq_nil_of_length_eq_zero (show s.data.toList.length = 0 by rw [list_len]; exact hz)]; rfl
    go_enter Try.func6, Try.ntmps6
    go_wp2_with (go_at_call 10; refine (fresh_any s _).mono ?_; rintro e w1 ⟨p, g, rfl, hp, hg, h1, l1, b1⟩)
    have H1 := Lib.hid h1
    have L1 := Lib.hid l1
    have B1 := Lib.hid b1
    have hpg := h1.ne l1
    clear h1 l1 b1
    go_loopg [4, 25] 100 (fun n av cv wr => ∃ (i a K : Nat), i + n = 100 ∧ cv = .int .i64 (i : Int) ∧ av = .int .i64 (a : Int) ∧ a ≤ s.size ∧ K ≤ 302 * i ∧ SrcAt wr p g s 0 s.size a ∧ LedAt wr g (T0.used K) ∧ Below w.heap.size w wr)
    case atStart => exact ⟨0, 0, 0, by omega, rfl, rfl, by omega, by omega, H1.out, by rw [Led.used_zero]; exact L1.out, B1.out⟩
    case round =>
      obtain ⟨i, a, K, hn, rfl, rfl, ha, hK, h, hl, hb⟩ := hrel
      have HB := Lib.hid hb
      have hsz := hb.size
      by_cases hlt : i < 100
      · have hltI : (i : Int) < 100 := by omega
        have hR := fun w => refDigit_any s a w ha (by omega)
        obtain ⟨kd, pl, hy, hk0, hc⟩ | ⟨V, f, jj, hy, hn', hjj, hc⟩ := tokDigit_cases h ⟨by omega, ha, Nat.le_refl _, by omega⟩ hl rfl T0.ok (show (0 : Int) + (K : Int) + ((s.size - a + 2 : Nat) : Int) ≤ 100000 by omega)
        · rw [hy] at hR
          have HR : Hid (∀ w : World, Calls Try.prog 22 #[.string s, .int .i64 (a : Int)] w fun e w' => e = .returned (.agg #[.int .i64 0, .int .i64 0, .int .i64 0, .int .i64 (kd : Int), .int .i64 (pl : Int)]) ∧ Below w.heap.size w w') := Lib.hid hR
          have HC := Lib.hid hc
          have hki : ¬ (kd : Int) = 0 := by omega
          clear h hl hb hc hy hR
          go_wp2_with (first
            | (go_at_call 21; refine HC.out.mono ?_; rintro e w2 ⟨rfl, t2⟩)
            | (go_at_call 22; refine (HR.out _).mono ?_; rintro e w3 ⟨rfl, b3⟩; have hz3 := below_box_size b3; have y0 : w3.cell? ⟨w2.heap.size, 0, none⟩ = some (.int .i64 (kd : Int)) := (b3.cell (p := ⟨w2.heap.size, 0, none⟩) (by simp)).trans (cell_new _ _ _ 0 _ rfl); have y1 : w3.cell? ⟨w2.heap.size, 1, none⟩ = some (.int .i64 3) := (b3.cell (p := ⟨w2.heap.size, 1, none⟩) (by simp)).trans (cell_new _ _ _ 1 _ rfl); have y2 : w3.cell? ⟨w2.heap.size, 2, none⟩ = some (.int .i64 (pl : Int)) := (b3.cell (p := ⟨w2.heap.size, 2, none⟩) (by simp)).trans (cell_new _ _ _ 2 _ rfl))
            | (go_at_call 14; refine (same_bad kd pl hk0 _ _).mono ?_; rintro e w4 ⟨rfl, b4⟩; have hz4 := below_box_size b4; have v3 : w4.cell? ⟨w3.heap.size, 3, none⟩ = some (.int .i64 (kd : Int)) := (b4.cell (p := ⟨w3.heap.size, 3, none⟩) (by simp)).trans (cell_new _ _ _ 3 _ rfl))
            | (go_at_call 10; refine (fresh_any s _).mono ?_; rintro e w8 ⟨p8, g8, rfl, hp8, hg8, h8, l8, b8⟩)
            | (go_at_call 23; refine (tokOne_end h8 (by omega) l8 hz).mono ?_; rintro e w9 ⟨rfl, t9⟩)
            | (go_at_call 11; refine (awake11_any _).mono ?_; rintro e w5 ⟨rfl, b5⟩))
          have z2 := Turn.belowNext HB.out t2 (by simp; omega) HB.out.size
          have z3 := below_next (z2.alloc z2.size _) b3
          have z4 := below_next (z3.alloc z3.size _) b4
          go_ret
          have zz0 := z4
          have zz1 := below_next zz0 b8
          have zz2 := Turn.belowNext zz1 t9 (by have := zz0.size; simp; omega) zz1.size
          exact ⟨rfl, below_next (zz2.alloc zz2.size _) b5⟩
        · rw [hy] at hR
          have HR : Hid (∀ w : World, Calls Try.prog 22 #[.string s, .int .i64 (a : Int)] w fun e w' => e = .returned (.agg #[.int .i64 (V : Int), .int .i64 (f : Int), .int .i64 ((f + 1 : Nat) : Int), .int .i64 0, .int .i64 0]) ∧ Below w.heap.size w w') := Lib.hid hR
          have HC := Lib.hid hc
          clear h hl hb hc hy hR
          obtain ⟨n', hn2⟩ : ∃ n' : Nat, n' = f + 1 := ⟨_, rfl⟩
          rw [← hn2] at HR HC hn'
          clear hn2
          go_wp2_with (first
            | (go_at_call 21; refine HC.out.mono ?_; rintro e w2 ⟨rfl, s2, l2, t2⟩)
            | (go_at_call 22; refine (HR.out _).mono ?_; rintro e w3 ⟨rfl, b3⟩; have hz3 := below_box_size b3; have y0 : w3.cell? ⟨w2.heap.size, 0, none⟩ = some (.int .i64 0) := (b3.cell (p := ⟨w2.heap.size, 0, none⟩) (by simp)).trans (cell_new _ _ _ 0 _ rfl); have y1 : w3.cell? ⟨w2.heap.size, 1, none⟩ = some (.int .i64 0) := (b3.cell (p := ⟨w2.heap.size, 1, none⟩) (by simp)).trans (cell_new _ _ _ 1 _ rfl); have y2 : w3.cell? ⟨w2.heap.size, 2, none⟩ = some (.int .i64 0) := (b3.cell (p := ⟨w2.heap.size, 2, none⟩) (by simp)).trans (cell_new _ _ _ 2 _ rfl); have s3 := Blk.below s2 (below_box b3) (Blk.lt s2); have l3 := Blk.below l2 (below_box b3) (Blk.lt l2); have s3' : SrcAt (w3.alloc (.cells #[.int .i64 (V : Int), .int .i64 (f : Int), .int .i64 (n' : Int), .int .i64 0, .int .i64 0] 30)) p g s 0 s.size n' := Blk.alloc s3 _)
            | (go_at_call 14; refine (same_ok (V := V) (f := f) (n := n') s3').mono ?_; rintro e w4 ⟨rfl, b4⟩; have hz4 := below_box_size b4; have v3 : w4.cell? ⟨w3.heap.size, 3, none⟩ = some (.int .i64 0) := (b4.cell (p := ⟨w3.heap.size, 3, none⟩) (by simp)).trans (cell_new _ _ _ 3 _ rfl); have v2 : w4.cell? ⟨w3.heap.size, 2, none⟩ = some (.int .i64 (n' : Int)) := (b4.cell (p := ⟨w3.heap.size, 2, none⟩) (by simp)).trans (cell_new _ _ _ 2 _ rfl); have s4 := Blk.below s3 (below_box b4) (Blk.lt s3); have l4 := Blk.below l3 (below_box b4) (Blk.lt l3)))
          go_roundg (100 - (i + 1))
          case measure => omega
          case rel =>
            have z2 := Turn.belowNext HB.out t2 (by simp; omega) HB.out.size
            have z3 := below_next (z2.alloc z2.size _) b3
            have z4 := below_next (z3.alloc z3.size _) b4
            exact ⟨i + 1, n', _, by omega, by go_num, rfl, hn', (by omega), s4, l4, z4⟩
      · obtain rfl : i = 100 := by omega
        clear h hl
        go_wp2_with (first
          | (go_at_call 10; refine (fresh_any s _).mono ?_; rintro e w8 ⟨p8, g8, rfl, hp8, hg8, h8, l8, b8⟩)
          | (go_at_call 23; refine (tokOne_end h8 (by omega) l8 hz).mono ?_; rintro e w9 ⟨rfl, t9⟩)
          | (go_at_call 11; refine (awake11_any _).mono ?_; rintro e w5 ⟨rfl, b5⟩))
        go_ret
        have zz0 := HB.out
        have zz1 := below_next zz0 b8
        have zz2 := Turn.belowNext zz1 t9 (by have := zz0.size; simp; omega) zz1.size
        exact ⟨rfl, below_next (zz2.alloc zz2.size _) b5⟩
  · skip
    have hse : s.toList.isEmpty = false := by rw [ByteArray.toList_eq]; cases hh : s.data.toList with | nil => (have := list_len s; rw [hh] at this; simp at this; omega) | cons a l => rfl
    have hz0 : (0 : Int) < (s.size : Int) := by omega
    have hb0 := bat_eq hz
    go_enter Try.func6, Try.ntmps6
    go_wp2_with (go_at_call 10; refine (fresh_any s _).mono ?_; rintro e w1 ⟨p, g, rfl, hp, hg, h1, l1, b1⟩)
    have H1 := Lib.hid h1
    have L1 := Lib.hid l1
    have B1 := Lib.hid b1
    have hpg := h1.ne l1
    clear h1 l1 b1
    go_loopg [4, 25] 100 (fun n av cv wr => ∃ (i a K : Nat), i + n = 100 ∧ cv = .int .i64 (i : Int) ∧ av = .int .i64 (a : Int) ∧ a ≤ s.size ∧ K ≤ 302 * i ∧ SrcAt wr p g s 0 s.size a ∧ LedAt wr g (T0.used K) ∧ Below w.heap.size w wr)
    case atStart => exact ⟨0, 0, 0, by omega, rfl, rfl, by omega, by omega, H1.out, by rw [Led.used_zero]; exact L1.out, B1.out⟩
    case round =>
      obtain ⟨i, a, K, hn, rfl, rfl, ha, hK, h, hl, hb⟩ := hrel
      have HB := Lib.hid hb
      have hsz := hb.size
      by_cases hlt : i < 100
      · have hltI : (i : Int) < 100 := by omega
        have hR := fun w => refDigit_any s a w ha (by omega)
        obtain ⟨kd, pl, hy, hk0, hc⟩ | ⟨V, f, jj, hy, hn', hjj, hc⟩ := tokDigit_cases h ⟨by omega, ha, Nat.le_refl _, by omega⟩ hl rfl T0.ok (show (0 : Int) + (K : Int) + ((s.size - a + 2 : Nat) : Int) ≤ 100000 by omega)
        · rw [hy] at hR
          have HR : Hid (∀ w : World, Calls Try.prog 22 #[.string s, .int .i64 (a : Int)] w fun e w' => e = .returned (.agg #[.int .i64 0, .int .i64 0, .int .i64 0, .int .i64 (kd : Int), .int .i64 (pl : Int)]) ∧ Below w.heap.size w w') := Lib.hid hR
          have HC := Lib.hid hc
          have hki : ¬ (kd : Int) = 0 := by omega
          clear h hl hb hc hy hR
          go_wp2_with (first
            | (go_at_call 21; refine HC.out.mono ?_; rintro e w2 ⟨rfl, t2⟩)
            | (go_at_call 22; refine (HR.out _).mono ?_; rintro e w3 ⟨rfl, b3⟩; have hz3 := below_box_size b3; have y0 : w3.cell? ⟨w2.heap.size, 0, none⟩ = some (.int .i64 (kd : Int)) := (b3.cell (p := ⟨w2.heap.size, 0, none⟩) (by simp)).trans (cell_new _ _ _ 0 _ rfl); have y1 : w3.cell? ⟨w2.heap.size, 1, none⟩ = some (.int .i64 3) := (b3.cell (p := ⟨w2.heap.size, 1, none⟩) (by simp)).trans (cell_new _ _ _ 1 _ rfl); have y2 : w3.cell? ⟨w2.heap.size, 2, none⟩ = some (.int .i64 (pl : Int)) := (b3.cell (p := ⟨w2.heap.size, 2, none⟩) (by simp)).trans (cell_new _ _ _ 2 _ rfl))
            | (go_at_call 14; refine (same_bad kd pl hk0 _ _).mono ?_; rintro e w4 ⟨rfl, b4⟩; have hz4 := below_box_size b4; have v3 : w4.cell? ⟨w3.heap.size, 3, none⟩ = some (.int .i64 (kd : Int)) := (b4.cell (p := ⟨w3.heap.size, 3, none⟩) (by simp)).trans (cell_new _ _ _ 3 _ rfl))
            | (go_at_call 10; refine (fresh_any s _).mono ?_; rintro e w8 ⟨p8, g8, rfl, hp8, hg8, h8, l8, b8⟩)
            | (go_at_call 23; refine (tokOne_wrong h8 (by omega) l8 hz hbl).mono ?_; rintro e w9 ⟨rfl, t9⟩)
            | (go_at_call 11; refine (awake11_any _).mono ?_; rintro e w5 ⟨rfl, b5⟩)
            | (go_at_call 24; refine (refBlank_any _ _).mono ?_; rintro e w6 ⟨rfl, rfl⟩; rw [← hb0, hbl]))
          have z2 := Turn.belowNext HB.out t2 (by simp; omega) HB.out.size
          have z3 := below_next (z2.alloc z2.size _) b3
          have z4 := below_next (z3.alloc z3.size _) b4
          go_ret
          have zz0 := z4
          have zz1 := below_next zz0 b8
          have zz2 := Turn.belowNext zz1 t9 (by have := zz0.size; simp; omega) zz1.size
          exact ⟨rfl, below_next (zz2.alloc zz2.size _) b5⟩
        · rw [hy] at hR
          have HR : Hid (∀ w : World, Calls Try.prog 22 #[.string s, .int .i64 (a : Int)] w fun e w' => e = .returned (.agg #[.int .i64 (V : Int), .int .i64 (f : Int), .int .i64 ((f + 1 : Nat) : Int), .int .i64 0, .int .i64 0]) ∧ Below w.heap.size w w') := Lib.hid hR
          have HC := Lib.hid hc
          clear h hl hb hc hy hR
          obtain ⟨n', hn2⟩ : ∃ n' : Nat, n' = f + 1 := ⟨_, rfl⟩
          rw [← hn2] at HR HC hn'
          clear hn2
          go_wp2_with (first
            | (go_at_call 21; refine HC.out.mono ?_; rintro e w2 ⟨rfl, s2, l2, t2⟩)
            | (go_at_call 22; refine (HR.out _).mono ?_; rintro e w3 ⟨rfl, b3⟩; have hz3 := below_box_size b3; have y0 : w3.cell? ⟨w2.heap.size, 0, none⟩ = some (.int .i64 0) := (b3.cell (p := ⟨w2.heap.size, 0, none⟩) (by simp)).trans (cell_new _ _ _ 0 _ rfl); have y1 : w3.cell? ⟨w2.heap.size, 1, none⟩ = some (.int .i64 0) := (b3.cell (p := ⟨w2.heap.size, 1, none⟩) (by simp)).trans (cell_new _ _ _ 1 _ rfl); have y2 : w3.cell? ⟨w2.heap.size, 2, none⟩ = some (.int .i64 0) := (b3.cell (p := ⟨w2.heap.size, 2, none⟩) (by simp)).trans (cell_new _ _ _ 2 _ rfl); have s3 := Blk.below s2 (below_box b3) (Blk.lt s2); have l3 := Blk.below l2 (below_box b3) (Blk.lt l2); have s3' : SrcAt (w3.alloc (.cells #[.int .i64 (V : Int), .int .i64 (f : Int), .int .i64 (n' : Int), .int .i64 0, .int .i64 0] 30)) p g s 0 s.size n' := Blk.alloc s3 _)
            | (go_at_call 14; refine (same_ok (V := V) (f := f) (n := n') s3').mono ?_; rintro e w4 ⟨rfl, b4⟩; have hz4 := below_box_size b4; have v3 : w4.cell? ⟨w3.heap.size, 3, none⟩ = some (.int .i64 0) := (b4.cell (p := ⟨w3.heap.size, 3, none⟩) (by simp)).trans (cell_new _ _ _ 3 _ rfl); have v2 : w4.cell? ⟨w3.heap.size, 2, none⟩ = some (.int .i64 (n' : Int)) := (b4.cell (p := ⟨w3.heap.size, 2, none⟩) (by simp)).trans (cell_new _ _ _ 2 _ rfl); have s4 := Blk.below s3 (below_box b4) (Blk.lt s3); have l4 := Blk.below l3 (below_box b4) (Blk.lt l3)))
          go_roundg (100 - (i + 1))
          case measure => omega
          case rel =>
            have z2 := Turn.belowNext HB.out t2 (by simp; omega) HB.out.size
            have z3 := below_next (z2.alloc z2.size _) b3
            have z4 := below_next (z3.alloc z3.size _) b4
            exact ⟨i + 1, n', _, by omega, by go_num, rfl, hn', (by omega), s4, l4, z4⟩
      · obtain rfl : i = 100 := by omega
        clear h hl
        go_wp2_with (first
          | (go_at_call 10; refine (fresh_any s _).mono ?_; rintro e w8 ⟨p8, g8, rfl, hp8, hg8, h8, l8, b8⟩)
          | (go_at_call 23; refine (tokOne_wrong h8 (by omega) l8 hz hbl).mono ?_; rintro e w9 ⟨rfl, t9⟩)
          | (go_at_call 11; refine (awake11_any _).mono ?_; rintro e w5 ⟨rfl, b5⟩)
          | (go_at_call 24; refine (refBlank_any _ _).mono ?_; rintro e w6 ⟨rfl, rfl⟩; rw [← hb0, hbl]))
        go_ret
        have zz0 := HB.out
        have zz1 := below_next zz0 b8
        have zz2 := Turn.belowNext zz1 t9 (by have := zz0.size; simp; omega) zz1.size
        exact ⟨rfl, below_next (zz2.alloc zz2.size _) b5⟩
  · skip
    have hse : s.toList.isEmpty = false := by rw [ByteArray.toList_eq]; cases hh : s.data.toList with | nil => (have := list_len s; rw [hh] at this; simp at this; omega) | cons a l => rfl
    have hz0 : (0 : Int) < (s.size : Int) := by omega
    have hb0 := bat_eq hz
    go_enter Try.func6, Try.ntmps6
    go_wp2_with (go_at_call 10; refine (fresh_any s _).mono ?_; rintro e w1 ⟨p, g, rfl, hp, hg, h1, l1, b1⟩)
    have H1 := Lib.hid h1
    have L1 := Lib.hid l1
    have B1 := Lib.hid b1
    have hpg := h1.ne l1
    clear h1 l1 b1
    go_loopg [4, 25] 100 (fun n av cv wr => ∃ (i a K : Nat), i + n = 100 ∧ cv = .int .i64 (i : Int) ∧ av = .int .i64 (a : Int) ∧ a ≤ s.size ∧ K ≤ 302 * i ∧ SrcAt wr p g s 0 s.size a ∧ LedAt wr g (T0.used K) ∧ Below w.heap.size w wr)
    case atStart => exact ⟨0, 0, 0, by omega, rfl, rfl, by omega, by omega, H1.out, by rw [Led.used_zero]; exact L1.out, B1.out⟩
    case round =>
      obtain ⟨i, a, K, hn, rfl, rfl, ha, hK, h, hl, hb⟩ := hrel
      have HB := Lib.hid hb
      have hsz := hb.size
      by_cases hlt : i < 100
      · have hltI : (i : Int) < 100 := by omega
        have hR := fun w => refDigit_any s a w ha (by omega)
        obtain ⟨kd, pl, hy, hk0, hc⟩ | ⟨V, f, jj, hy, hn', hjj, hc⟩ := tokDigit_cases h ⟨by omega, ha, Nat.le_refl _, by omega⟩ hl rfl T0.ok (show (0 : Int) + (K : Int) + ((s.size - a + 2 : Nat) : Int) ≤ 100000 by omega)
        · rw [hy] at hR
          have HR : Hid (∀ w : World, Calls Try.prog 22 #[.string s, .int .i64 (a : Int)] w fun e w' => e = .returned (.agg #[.int .i64 0, .int .i64 0, .int .i64 0, .int .i64 (kd : Int), .int .i64 (pl : Int)]) ∧ Below w.heap.size w w') := Lib.hid hR
          have HC := Lib.hid hc
          have hki : ¬ (kd : Int) = 0 := by omega
          clear h hl hb hc hy hR
          go_wp2_with (first
            | (go_at_call 21; refine HC.out.mono ?_; rintro e w2 ⟨rfl, t2⟩)
            | (go_at_call 22; refine (HR.out _).mono ?_; rintro e w3 ⟨rfl, b3⟩; have hz3 := below_box_size b3; have y0 : w3.cell? ⟨w2.heap.size, 0, none⟩ = some (.int .i64 (kd : Int)) := (b3.cell (p := ⟨w2.heap.size, 0, none⟩) (by simp)).trans (cell_new _ _ _ 0 _ rfl); have y1 : w3.cell? ⟨w2.heap.size, 1, none⟩ = some (.int .i64 3) := (b3.cell (p := ⟨w2.heap.size, 1, none⟩) (by simp)).trans (cell_new _ _ _ 1 _ rfl); have y2 : w3.cell? ⟨w2.heap.size, 2, none⟩ = some (.int .i64 (pl : Int)) := (b3.cell (p := ⟨w2.heap.size, 2, none⟩) (by simp)).trans (cell_new _ _ _ 2 _ rfl))
            | (go_at_call 14; refine (same_bad kd pl hk0 _ _).mono ?_; rintro e w4 ⟨rfl, b4⟩; have hz4 := below_box_size b4; have v3 : w4.cell? ⟨w3.heap.size, 3, none⟩ = some (.int .i64 (kd : Int)) := (b4.cell (p := ⟨w3.heap.size, 3, none⟩) (by simp)).trans (cell_new _ _ _ 3 _ rfl))
            | (go_at_call 10; refine (fresh_any s _).mono ?_; rintro e w8 ⟨p8, g8, rfl, hp8, hg8, h8, l8, b8⟩)
            | (go_at_call 23; refine (tokOne_yes h8 (by omega) l8 hz hbl).mono ?_; rintro e w9 ⟨rfl, s9, t9⟩; have s9' : SrcAt (w9.alloc (.cells #[.int .i64 0, .int .i64 0, .int .i64 0] 26)) p8 g8 s 0 s.size 1 := Blk.alloc s9 _)
            | (go_at_call 11; refine (awake11_any _).mono ?_; rintro e w5 ⟨rfl, b5⟩)
            | (go_at_call 24; refine (refBlank_any _ _).mono ?_; rintro e w6 ⟨rfl, rfl⟩; rw [← hb0, hbl])
            | (go_at_call 17; refine (srcAt_at s9').mono ?_; rintro e w6 ⟨rfl, rfl⟩))
          have z2 := Turn.belowNext HB.out t2 (by simp; omega) HB.out.size
          have z3 := below_next (z2.alloc z2.size _) b3
          have z4 := below_next (z3.alloc z3.size _) b4
          go_ret
          have zz0 := z4
          have zz1 := below_next zz0 b8
          have zz2 := Turn.belowNext zz1 t9 (by have := zz0.size; simp; omega) zz1.size
          exact ⟨rfl, below_next (zz2.alloc zz2.size _) b5⟩
        · rw [hy] at hR
          have HR : Hid (∀ w : World, Calls Try.prog 22 #[.string s, .int .i64 (a : Int)] w fun e w' => e = .returned (.agg #[.int .i64 (V : Int), .int .i64 (f : Int), .int .i64 ((f + 1 : Nat) : Int), .int .i64 0, .int .i64 0]) ∧ Below w.heap.size w w') := Lib.hid hR
          have HC := Lib.hid hc
          clear h hl hb hc hy hR
          obtain ⟨n', hn2⟩ : ∃ n' : Nat, n' = f + 1 := ⟨_, rfl⟩
          rw [← hn2] at HR HC hn'
          clear hn2
          go_wp2_with (first
            | (go_at_call 21; refine HC.out.mono ?_; rintro e w2 ⟨rfl, s2, l2, t2⟩)
            | (go_at_call 22; refine (HR.out _).mono ?_; rintro e w3 ⟨rfl, b3⟩; have hz3 := below_box_size b3; have y0 : w3.cell? ⟨w2.heap.size, 0, none⟩ = some (.int .i64 0) := (b3.cell (p := ⟨w2.heap.size, 0, none⟩) (by simp)).trans (cell_new _ _ _ 0 _ rfl); have y1 : w3.cell? ⟨w2.heap.size, 1, none⟩ = some (.int .i64 0) := (b3.cell (p := ⟨w2.heap.size, 1, none⟩) (by simp)).trans (cell_new _ _ _ 1 _ rfl); have y2 : w3.cell? ⟨w2.heap.size, 2, none⟩ = some (.int .i64 0) := (b3.cell (p := ⟨w2.heap.size, 2, none⟩) (by simp)).trans (cell_new _ _ _ 2 _ rfl); have s3 := Blk.below s2 (below_box b3) (Blk.lt s2); have l3 := Blk.below l2 (below_box b3) (Blk.lt l2); have s3' : SrcAt (w3.alloc (.cells #[.int .i64 (V : Int), .int .i64 (f : Int), .int .i64 (n' : Int), .int .i64 0, .int .i64 0] 30)) p g s 0 s.size n' := Blk.alloc s3 _)
            | (go_at_call 14; refine (same_ok (V := V) (f := f) (n := n') s3').mono ?_; rintro e w4 ⟨rfl, b4⟩; have hz4 := below_box_size b4; have v3 : w4.cell? ⟨w3.heap.size, 3, none⟩ = some (.int .i64 0) := (b4.cell (p := ⟨w3.heap.size, 3, none⟩) (by simp)).trans (cell_new _ _ _ 3 _ rfl); have v2 : w4.cell? ⟨w3.heap.size, 2, none⟩ = some (.int .i64 (n' : Int)) := (b4.cell (p := ⟨w3.heap.size, 2, none⟩) (by simp)).trans (cell_new _ _ _ 2 _ rfl); have s4 := Blk.below s3 (below_box b4) (Blk.lt s3); have l4 := Blk.below l3 (below_box b4) (Blk.lt l3)))
          go_roundg (100 - (i + 1))
          case measure => omega
          case rel =>
            have z2 := Turn.belowNext HB.out t2 (by simp; omega) HB.out.size
            have z3 := below_next (z2.alloc z2.size _) b3
            have z4 := below_next (z3.alloc z3.size _) b4
            exact ⟨i + 1, n', _, by omega, by go_num, rfl, hn', (by omega), s4, l4, z4⟩
      · obtain rfl : i = 100 := by omega
        clear h hl
        go_wp2_with (first
          | (go_at_call 10; refine (fresh_any s _).mono ?_; rintro e w8 ⟨p8, g8, rfl, hp8, hg8, h8, l8, b8⟩)
          | (go_at_call 23; refine (tokOne_yes h8 (by omega) l8 hz hbl).mono ?_; rintro e w9 ⟨rfl, s9, t9⟩; have s9' : SrcAt (w9.alloc (.cells #[.int .i64 0, .int .i64 0, .int .i64 0] 26)) p8 g8 s 0 s.size 1 := Blk.alloc s9 _)
          | (go_at_call 11; refine (awake11_any _).mono ?_; rintro e w5 ⟨rfl, b5⟩)
          | (go_at_call 24; refine (refBlank_any _ _).mono ?_; rintro e w6 ⟨rfl, rfl⟩; rw [← hb0, hbl])
          | (go_at_call 17; refine (srcAt_at s9').mono ?_; rintro e w6 ⟨rfl, rfl⟩))
        go_ret
        have zz0 := HB.out
        have zz1 := below_next zz0 b8
        have zz2 := Turn.belowNext zz1 t9 (by have := zz0.size; simp; omega) zz1.size
        exact ⟨rfl, below_next (zz2.alloc zz2.size _) b5⟩

theorem tokenDigits_said (w : World) (s : ByteArray) (hs : s.size ≤ maxLen) :
    Calls Try.prog 6 #[.string s] w fun e w' => e = .returned (.bool true) ∧ Below w.heap.size w w' := by
  by_cases hlen : s.size ≤ 300
  · refine tokenDigits_walk w s hlen ?_
    by_cases hz : s.size = 0
    · exact .inl hz
    · cases hb : isBlank (bat s 0)
      · exact .inr (.inl ⟨by omega, hb⟩)
      · exact .inr (.inr ⟨by omega, hb⟩)
  · have i1 : (300 : Int) < (s.size : Int) := by omega
    go_enter Try.func6, Try.ntmps6
    go_wp2_with (first
      | (go_at_call 10; refine (fresh_any s _).mono ?_; rintro e w1 ⟨p, g, rfl, hp, hg, h1, l1, b1⟩)
      | (go_at_call 11; refine (awake11_any _).mono ?_; rintro e w5 ⟨rfl, b5⟩))
    go_ret
    exact ⟨rfl, below_next b1 b5⟩
end Go.Proofs.Ytncdchaecbndlab
