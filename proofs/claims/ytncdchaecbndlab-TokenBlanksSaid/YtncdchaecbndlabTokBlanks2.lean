/- The law TokenBlanks: its main case. -/
import Derived.Test.YtncdchaecbndlabTokBlanks
namespace Go.Proofs.Ytncdchaecbndlab
open Go.RowKit
set_option linter.unusedVariables false
set_option linter.unusedSimpArgs false

section
variable (bl s : ByteArray)
set_option maxRecDepth 100000 in
set_option maxHeartbeats 600000 in
theorem blanks_c4 (w : World) (hb : bl.size ≤ 100) (hs : s.size ≤ 100) (h1 : overN false (nats (bl ++ (⟨#[32]⟩ : ByteArray))) = bl.size + 1) (h2 : overN false (nats bl) = bl.size) (h3 : overN false (nats (bl ++ (⟨#[10]⟩ : ByteArray))) = bl.size + 1) :
    Calls Try.prog 4 #[.string bl, .string s] w fun e w' => e = .returned (.bool true) ∧ Below w.heap.size w w' := by
  have e10 : nats (bl ++ (⟨#[10]⟩ : ByteArray)) = nats bl ++ [10] := nats_append _ _
  have eT : nats (bl ++ (⟨#[10]⟩ : ByteArray) ++ s) = (nats bl ++ [10]) ++ nats s := by rw [nats_append, e10]
  have hov : overN false (nats (bl ++ (⟨#[10]⟩ : ByteArray) ++ s)) = bl.size + 1 + overN false (nats s) := by
    rw [eT]
    have := over_blanks (nats bl) (nats s) (by rw [← e10, h3, nats_len])
    rw [this, nats_len]
  have hLm : (nats bl ++ [10]).length = bl.size + 1 := by simp [nats_len]
  have hsh := num_shift (L := nats (bl ++ (⟨#[10]⟩ : ByteArray) ++ s)) (l := nats s) (m := bl.size + 1) (by rw [eT, List.length_append, hLm]) (fun i => by rw [eT, ← hLm, ← List.drop_drop, List.drop_left]) (fun i => by rw [eT, List.getD_eq_getElem?_getD, List.getElem?_append_right (by rw [hLm]; omega), hLm, List.getD_eq_getElem?_getD]; congr 2; omega) hov
  have i1 : ¬ (100 : Int) < (bl.size : Int) := by omega
  have i2 : ¬ (100 : Int) < (s.size : Int) := by omega
  have z32 := Lib.hid (sz32 bl hb)
  have zb := Lib.hid (show bl.size ≤ 1000 by omega)
  have zs := Lib.hid (show s.size ≤ 1000 by omega)
  have z10 := Lib.hid (sz10 bl hb)
  have zT := Lib.hid (szT bl s hb hs)
  have HO1 := Lib.hid (fun w => refOver0 (bl ++ (⟨#[32]⟩ : ByteArray)) w z32.out)
  have HO2 := Lib.hid (fun w => refOver0 bl w zb.out)
  have HO3 := Lib.hid (fun w => refOver0 (bl ++ (⟨#[10]⟩ : ByteArray)) w z10.out)
  rw [h1] at HO1
  rw [h2] at HO2
  rw [h3] at HO3
  have HO4 := Lib.hid (fun w => refOver0 (bl ++ (⟨#[10]⟩ : ByteArray) ++ s) w zT.out)
  generalize hovn : overN false (nats (bl ++ (⟨#[10]⟩ : ByteArray) ++ s)) = on at HO4
  have HON := Lib.hid hovn
  by_cases hk : (numberAt (nats s) 0).Kind = 0
  · obtain ⟨V, f, n', hy, hfl⟩ := num_good hk
    rw [nats_len] at hfl
    have hfl2 : f ≤ 100 := by omega
    rw [if_pos hk, hy] at hsh
    have HY := Lib.hid hy
    obtain ⟨fs, hfs⟩ : ∃ fs : Nat, fs = f + (bl.size + 1) := ⟨_, rfl⟩
    obtain ⟨ns, hns⟩ : ∃ ns : Nat, ns = n' + (bl.size + 1) := ⟨_, rfl⟩
    rw [← hfs, ← hns] at hsh
    have HSH : Hid (numberAt (nats (bl ++ (⟨#[10]⟩ : ByteArray) ++ s)) 0 = ⟨V, fs, ns, 0, 0⟩) := Lib.hid hsh
    have hfi : (f : Int) + ((bl.size : Int) + 1) = (fs : Int) := by omega
    clear hfs hns
    clear h1 h2 h3 hk hy hsh hov e10 eT hLm hovn
    go_enter Try.func4, Try.ntmps4
    go_wp2_with (first
      | (go_at_call 10; have := kf2; refine (fresh_any (bl ++ (⟨#[10]⟩ : ByteArray) ++ s) _).mono ?_; rintro e w3 ⟨p3, g3, rfl, hp3, hg3, h3, l3, b3⟩; have s31 := Blk.below s21 b3 (Blk.lt s21); have l31 := Blk.below l21 b3 (Blk.lt l21); have s32 := Blk.below h2' b3 (Blk.lt h2'); have l32 := Blk.below l2' b3 (Blk.lt l2'); have bb3 := below_next bb2 b3)
      | (go_at_call 10; have := kf1; refine (fresh_any s _).mono ?_; rintro e w2 ⟨p2, g2, rfl, hp2, hg2, h2', l2', b2⟩; have s21 := Blk.below h1' b2 (Blk.lt h1'); have l21 := Blk.below l1' b2 (Blk.lt l1'); have bb2 := below_next b1 b2; have kf2 := trivial)
      | (go_at_call 10; refine (fresh_any (bl ++ (⟨#[10]⟩ : ByteArray) ++ s) _).mono ?_; rintro e w1 ⟨p1, g1, rfl, hp1, hg1, h1', l1', b1⟩; have kf1 := trivial)
      | (go_at_call 15; have := k3; refine (HO4.out _).mono ?_; rintro e w9 ⟨rfl, rfl⟩)
      | (go_at_call 15; have := k2; refine (HO3.out _).mono ?_; rintro e w9 ⟨rfl, rfl⟩; have k3 := trivial)
      | (go_at_call 15; have := k1; refine (HO2.out _).mono ?_; rintro e w9 ⟨rfl, rfl⟩; have k2 := trivial)
      | (go_at_call 15; refine (HO1.out _).mono ?_; rintro e w9 ⟨rfl, rfl⟩; have k1 := trivial)
      | (go_at_call 16; refine (tokOver0 h3 zT.out l3).mono ?_; rintro e w4 ⟨rfl, s4, t4⟩; rw [HON.out] at s4; have s41 := Blk.turn s31 t4 (not_two (by have := Blk.lt s21; omega) (by have := Blk.lt s21; omega)); have l41 := LedAt.turn l31 t4 (not_two (by have := Blk.lt l21; omega) (by have := Blk.lt l21; omega)); have s42 := Blk.turn s32 t4 (not_two (by have := Blk.lt h2'; omega) (by have := Blk.lt h2'; omega)); have l42 := LedAt.turn l32 t4 (not_two (by have := Blk.lt l2'; omega) (by have := Blk.lt l2'; omega)); have bb4 := Turn.belowNext bb3 t4 (by have := bb2.size; simp; omega) bb3.size; have s4' : SrcAt (w4.alloc (.cells #[.int .i64 0, .int .i64 0, .int .i64 0] 26)) p3 g3 _ 0 _ on := Blk.alloc s4 _; have s51 : SrcAt (w4.alloc (.cells #[.int .i64 0, .int .i64 0, .int .i64 0] 26)) p1 g1 _ 0 _ 0 := Blk.alloc s41 _; have l51 : LedAt (w4.alloc (.cells #[.int .i64 0, .int .i64 0, .int .i64 0] 26)) g1 T0 := Blk.alloc l41 _; have s52 : SrcAt (w4.alloc (.cells #[.int .i64 0, .int .i64 0, .int .i64 0] 26)) p2 g2 _ 0 _ 0 := Blk.alloc s42 _; have l52 : LedAt (w4.alloc (.cells #[.int .i64 0, .int .i64 0, .int .i64 0] 26)) g2 T0 := Blk.alloc l42 _; have bb5 := bb4.alloc bb4.size (.cells #[.int .i64 0, .int .i64 0, .int .i64 0] 26))
      | (go_at_call 17; refine (srcAt_at s4').mono ?_; rintro e w9 ⟨rfl, rfl⟩)
      | (go_at_call 12; have := kn; refine (tokNum_ok s62 zs.out l62 HY.out).mono ?_; rintro e w7 ⟨rfl, t7⟩; have bb7 := Turn.belowNext bb6 t7 (by have := b1.size; simp; omega) bb6.size; have v0 : w7.cell? ⟨w6.heap.size, 0, none⟩ = some (.int .i64 0) := (t7.cell (i := w6.heap.size) (by simp) (not_two (by have := Blk.lt s62'; omega) (by have := Blk.lt l62'; omega)) 0).trans (cell_new _ _ _ 0 _ rfl); have v1 : w7.cell? ⟨w6.heap.size, 1, none⟩ = some (.int .i64 0) := (t7.cell (i := w6.heap.size) (by simp) (not_two (by have := Blk.lt s62'; omega) (by have := Blk.lt l62'; omega)) 1).trans (cell_new _ _ _ 1 _ rfl); have v2 : w7.cell? ⟨w6.heap.size, 2, none⟩ = some (.int .i64 0) := (t7.cell (i := w6.heap.size) (by simp) (not_two (by have := Blk.lt s62'; omega) (by have := Blk.lt l62'; omega)) 2).trans (cell_new _ _ _ 2 _ rfl); have hz7 : w6.heap.size < w7.heap.size := (by have := t7.size; simp at this; omega))
      | (go_at_call 12; refine (tokNum_ok s51 zT.out l51 HSH.out).mono ?_; rintro e w6 ⟨rfl, t6⟩; have kn := trivial; have s62' := Blk.turn s52 t6 (not_two (by have := Blk.lt s21; have := Blk.lt h1'; omega) (by have := Blk.lt h1'; have := Blk.lt l1'; omega)); have l62' := LedAt.turn l52 t6 (not_two (by have := Blk.lt h1'; omega) (by have := Blk.lt l1'; omega)); have bb6' := Turn.belowNext bb5 t6 (by simp; omega) bb5.size; have s62 : SrcAt (w6.alloc (.cells #[.int .i64 0, .int .i64 0, .int .i64 0] 26)) p2 g2 _ 0 _ 0 := Blk.alloc s62' _; have l62 : LedAt (w6.alloc (.cells #[.int .i64 0, .int .i64 0, .int .i64 0] 26)) g2 T0 := Blk.alloc l62' _; have bb6 := bb6'.alloc bb6'.size (.cells #[.int .i64 0, .int .i64 0, .int .i64 0] 26))
      | (go_at_call 11; refine (awake11_any _).mono ?_; rintro e w8 ⟨rfl, b8⟩))
    go_ret
    exact ⟨rfl, below_next (bb7.alloc bb7.size _) b8⟩
  · obtain ⟨kd, pl, hy, hk0, hfl⟩ := num_bad hk
    rw [nats_len] at hfl
    have hfl2 : pl ≤ 100 := by omega
    have hki : ¬ (kd : Int) = 0 := by omega
    rw [if_neg hk, hy] at hsh
    have HY := Lib.hid hy
    obtain ⟨ps, hps⟩ : ∃ ps : Nat, ps = pl + (bl.size + 1) := ⟨_, rfl⟩
    rw [← hps] at hsh
    have HSH : Hid (numberAt (nats (bl ++ (⟨#[10]⟩ : ByteArray) ++ s)) 0 = ⟨0, 0, 0, kd, ps⟩) := Lib.hid hsh
    have hfi : (pl : Int) + ((bl.size : Int) + 1) = (ps : Int) := by omega
    have HK0 := Lib.hid hk0
    clear hps
    clear h1 h2 h3 hk hk0 hy hsh hov e10 eT hLm hovn
    go_enter Try.func4, Try.ntmps4
    go_wp2_with (first
      | (go_at_call 10; have := kf2; refine (fresh_any (bl ++ (⟨#[10]⟩ : ByteArray) ++ s) _).mono ?_; rintro e w3 ⟨p3, g3, rfl, hp3, hg3, h3, l3, b3⟩; have s31 := Blk.below s21 b3 (Blk.lt s21); have l31 := Blk.below l21 b3 (Blk.lt l21); have s32 := Blk.below h2' b3 (Blk.lt h2'); have l32 := Blk.below l2' b3 (Blk.lt l2'); have bb3 := below_next bb2 b3)
      | (go_at_call 10; have := kf1; refine (fresh_any s _).mono ?_; rintro e w2 ⟨p2, g2, rfl, hp2, hg2, h2', l2', b2⟩; have s21 := Blk.below h1' b2 (Blk.lt h1'); have l21 := Blk.below l1' b2 (Blk.lt l1'); have bb2 := below_next b1 b2; have kf2 := trivial)
      | (go_at_call 10; refine (fresh_any (bl ++ (⟨#[10]⟩ : ByteArray) ++ s) _).mono ?_; rintro e w1 ⟨p1, g1, rfl, hp1, hg1, h1', l1', b1⟩; have kf1 := trivial)
      | (go_at_call 15; have := k3; refine (HO4.out _).mono ?_; rintro e w9 ⟨rfl, rfl⟩)
      | (go_at_call 15; have := k2; refine (HO3.out _).mono ?_; rintro e w9 ⟨rfl, rfl⟩; have k3 := trivial)
      | (go_at_call 15; have := k1; refine (HO2.out _).mono ?_; rintro e w9 ⟨rfl, rfl⟩; have k2 := trivial)
      | (go_at_call 15; refine (HO1.out _).mono ?_; rintro e w9 ⟨rfl, rfl⟩; have k1 := trivial)
      | (go_at_call 16; refine (tokOver0 h3 zT.out l3).mono ?_; rintro e w4 ⟨rfl, s4, t4⟩; rw [HON.out] at s4; have s41 := Blk.turn s31 t4 (not_two (by have := Blk.lt s21; omega) (by have := Blk.lt s21; omega)); have l41 := LedAt.turn l31 t4 (not_two (by have := Blk.lt l21; omega) (by have := Blk.lt l21; omega)); have s42 := Blk.turn s32 t4 (not_two (by have := Blk.lt h2'; omega) (by have := Blk.lt h2'; omega)); have l42 := LedAt.turn l32 t4 (not_two (by have := Blk.lt l2'; omega) (by have := Blk.lt l2'; omega)); have bb4 := Turn.belowNext bb3 t4 (by have := bb2.size; simp; omega) bb3.size; have s4' : SrcAt (w4.alloc (.cells #[.int .i64 0, .int .i64 0, .int .i64 0] 26)) p3 g3 _ 0 _ on := Blk.alloc s4 _; have s51 : SrcAt (w4.alloc (.cells #[.int .i64 0, .int .i64 0, .int .i64 0] 26)) p1 g1 _ 0 _ 0 := Blk.alloc s41 _; have l51 : LedAt (w4.alloc (.cells #[.int .i64 0, .int .i64 0, .int .i64 0] 26)) g1 T0 := Blk.alloc l41 _; have s52 : SrcAt (w4.alloc (.cells #[.int .i64 0, .int .i64 0, .int .i64 0] 26)) p2 g2 _ 0 _ 0 := Blk.alloc s42 _; have l52 : LedAt (w4.alloc (.cells #[.int .i64 0, .int .i64 0, .int .i64 0] 26)) g2 T0 := Blk.alloc l42 _; have bb5 := bb4.alloc bb4.size (.cells #[.int .i64 0, .int .i64 0, .int .i64 0] 26))
      | (go_at_call 17; refine (srcAt_at s4').mono ?_; rintro e w9 ⟨rfl, rfl⟩)
      | (go_at_call 12; have := kn; refine (tokNum_bad s62 zs.out l62 HY.out HK0.out).mono ?_; rintro e w7 ⟨rfl, t7⟩; have bb7 := Turn.belowNext bb6 t7 (by have := b1.size; simp; omega) bb6.size; have v0 : w7.cell? ⟨w6.heap.size, 0, none⟩ = some (.int .i64 (kd : Int)) := (t7.cell (i := w6.heap.size) (by simp) (not_two (by have := Blk.lt s62'; omega) (by have := Blk.lt l62'; omega)) 0).trans (cell_new _ _ _ 0 _ rfl); have v1 : w7.cell? ⟨w6.heap.size, 1, none⟩ = some (.int .i64 3) := (t7.cell (i := w6.heap.size) (by simp) (not_two (by have := Blk.lt s62'; omega) (by have := Blk.lt l62'; omega)) 1).trans (cell_new _ _ _ 1 _ rfl); have v2 : w7.cell? ⟨w6.heap.size, 2, none⟩ = some (.int .i64 (ps : Int)) := (t7.cell (i := w6.heap.size) (by simp) (not_two (by have := Blk.lt s62'; omega) (by have := Blk.lt l62'; omega)) 2).trans (cell_new _ _ _ 2 _ rfl); have hz7 : w6.heap.size < w7.heap.size := (by have := t7.size; simp at this; omega))
      | (go_at_call 12; refine (tokNum_bad s51 zT.out l51 HSH.out HK0.out).mono ?_; rintro e w6 ⟨rfl, t6⟩; have kn := trivial; have s62' := Blk.turn s52 t6 (not_two (by have := Blk.lt s21; have := Blk.lt h1'; omega) (by have := Blk.lt h1'; have := Blk.lt l1'; omega)); have l62' := LedAt.turn l52 t6 (not_two (by have := Blk.lt h1'; omega) (by have := Blk.lt l1'; omega)); have bb6' := Turn.belowNext bb5 t6 (by simp; omega) bb5.size; have s62 : SrcAt (w6.alloc (.cells #[.int .i64 (kd : Int), .int .i64 3, .int .i64 (ps : Int)] 26)) p2 g2 _ 0 _ 0 := Blk.alloc s62' _; have l62 : LedAt (w6.alloc (.cells #[.int .i64 (kd : Int), .int .i64 3, .int .i64 (ps : Int)] 26)) g2 T0 := Blk.alloc l62' _; have bb6 := bb6'.alloc bb6'.size (.cells #[.int .i64 (kd : Int), .int .i64 3, .int .i64 (ps : Int)] 26))
      | (go_at_call 11; refine (awake11_any _).mono ?_; rintro e w8 ⟨rfl, b8⟩))
    go_ret
    exact ⟨rfl, below_next (bb7.alloc bb7.size _) b8⟩
end

theorem tokenBlanks_said (w : World) (bl : ByteArray) (hbl : bl.size ≤ maxLen) (s : ByteArray) (hsl : s.size ≤ maxLen) :
    Calls Try.prog 4 #[.string bl, .string s] w fun e w' => e = .returned (.bool true) ∧ Below w.heap.size w w' := by
  by_cases hb : bl.size ≤ 100
  · by_cases hs : s.size ≤ 100
    · by_cases h1 : overN false (nats (bl ++ (⟨#[32]⟩ : ByteArray))) = bl.size + 1
      · by_cases h2 : overN false (nats bl) = bl.size
        · by_cases h3 : overN false (nats (bl ++ (⟨#[10]⟩ : ByteArray))) = bl.size + 1
          · exact blanks_c4 bl s w hb hs h1 h2 h3
          · exact blanks_c3 bl s w hb hs h1 h2 h3
        · exact blanks_c1 bl s w hb hs (.inr h2)
      · exact blanks_c1 bl s w hb hs (.inl h1)
    · have i1 : ¬ (100 : Int) < (bl.size : Int) := by omega
      have i2 : (100 : Int) < (s.size : Int) := by omega
      go_enter Try.func4, Try.ntmps4
      go_wp2_with (go_at_call 11; refine (awake11_any _).mono ?_; rintro e w5 ⟨rfl, b5⟩)
      go_ret
      exact ⟨rfl, b5⟩
  · have i1 : (100 : Int) < (bl.size : Int) := by omega
    go_enter Try.func4, Try.ntmps4
    go_wp2_with (go_at_call 11; refine (awake11_any _).mono ?_; rintro e w5 ⟨rfl, b5⟩)
    go_ret
    exact ⟨rfl, b5⟩
end Go.Proofs.Ytncdchaecbndlab
