/- The law TokenBlanks. -/
import Derived.Test.YtncdchaecbndlabTokNumW
namespace Go.Proofs.Ytncdchaecbndlab
open Go.RowKit
set_option linter.unusedVariables false
set_option linter.unusedSimpArgs false

theorem nats_append (a b : ByteArray) : nats (a ++ b) = nats a ++ nats b := by
  have : a ++ b = strOf (a.data.toList ++ b.data.toList) := by rw [← strOf_append, strOf_of, strOf_of]
  rw [this]
  simp [nats, strOf]
theorem num_shift {L l : List Nat} {m : Nat} (hL : L.length = m + l.length) (hd : ∀ i, L.drop (m + i) = l.drop i) (hg : ∀ i, L.getD (m + i) 0 = l.getD i 0) (ho : overN false L = m + overN false l) :
    numberAt L 0 = if (numberAt l 0).Kind = 0 then ⟨(numberAt l 0).V, (numberAt l 0).At + m, (numberAt l 0).Next + m, 0, 0⟩ else ⟨0, 0, 0, (numberAt l 0).Kind, (numberAt l 0).Place + m⟩ := by
  unfold numberAt
  simp only [List.drop_zero, Nat.zero_add, ho, hL, hg, hd]
  by_cases h1 : l.length ≤ overN false l
  · rw [if_pos (by omega)]
    simp [if_pos h1]
    omega
  · rw [if_neg (by omega)]
    simp only [if_neg h1]
    by_cases h2 : isDigit (l.getD (overN false l) 0) = true
    · simp only [if_pos h2, if_true, Got.mk.injEq, and_true, true_and]
      omega
    · simp only [if_neg h2]
      simp
      omega
theorem refOver0 (s : ByteArray) (w : World) (hs : s.size ≤ 1000) :
    Calls Try.prog 15 #[.string s, .int .i64 0] w fun e w' => e = .returned (.int .i64 (overN false (nats s) : Int)) ∧ w = w' := by
  have := refOver_any s 0 w (Nat.zero_le _) (by omega)
  simp only [List.drop_zero, Nat.zero_add] at this
  exact this
theorem tokNum_bad {w : World} {p g : Nat} {s : ByteArray} {kd pl : Nat} (h : SrcAt w p g s 0 s.size 0) (hs : s.size ≤ 1000) (hl : LedAt w g T0) (hy : numberAt (nats s) 0 = ⟨0, 0, 0, kd, pl⟩) (hk : kd ≠ 0) :
    Calls Try.prog 12 #[.pointer (some ⟨p, 0, none⟩)] w fun e w' => e = .returned (.tuple #[.int .i64 0, .int .i64 0, .agg #[.int .i64 (kd : Int), .int .i64 3, .int .i64 (pl : Int)]]) ∧ Turn [p, g] w w' := by
  have hnc := nCost_le (nats s) 0 (Nat.zero_le _)
  rw [nats_len] at hnc
  rcases tokNumber_cases (k := 0) h ⟨Nat.le_refl _, Nat.zero_le _, Nat.le_refl _, by omega⟩ (by rw [Led.used_zero]; exact hl) rfl T0.ok (show (0 : Int) + ((0 : Nat) : Int) + (nCost (nats s) 0 : Int) ≤ 100000 by omega) with ⟨kd2, pl2, hy2, hk2, _, _, hc⟩ | ⟨V, f, n, hy2, _, hc⟩
  · rw [hy] at hy2
    cases hy2
    refine hc.mono ?_
    rintro e w' ⟨rfl, _, q⟩
    exact ⟨rfl, q⟩
  · rw [hy] at hy2
    cases hy2
    exact absurd rfl hk
theorem tokNum_ok {w : World} {p g : Nat} {s : ByteArray} {V f n : Nat} (h : SrcAt w p g s 0 s.size 0) (hs : s.size ≤ 1000) (hl : LedAt w g T0) (hy : numberAt (nats s) 0 = ⟨V, f, n, 0, 0⟩) :
    Calls Try.prog 12 #[.pointer (some ⟨p, 0, none⟩)] w fun e w' => e = .returned (.tuple #[.int .i64 (V : Int), .int .i64 (f : Int), .agg #[.int .i64 0, .int .i64 0, .int .i64 0]]) ∧ Turn [p, g] w w' := by
  have hnc := nCost_le (nats s) 0 (Nat.zero_le _)
  rw [nats_len] at hnc
  rcases tokNumber_cases (k := 0) h ⟨Nat.le_refl _, Nat.zero_le _, Nat.le_refl _, by omega⟩ (by rw [Led.used_zero]; exact hl) rfl T0.ok (show (0 : Int) + ((0 : Nat) : Int) + (nCost (nats s) 0 : Int) ≤ 100000 by omega) with ⟨kd2, pl2, hy2, hk2, _, _, hc⟩ | ⟨V, f, n, hy2, _, hc⟩
  · rw [hy] at hy2
    cases hy2
    exact absurd rfl hk2
  · rw [hy] at hy2
    cases hy2
    refine hc.mono ?_
    rintro e w' ⟨rfl, _, _, q⟩
    exact ⟨rfl, q⟩
theorem tokOver0 {w : World} {p g : Nat} {s : ByteArray} (h : SrcAt w p g s 0 s.size 0) (hs : s.size ≤ 1000) (hl : LedAt w g T0) :
    Calls Try.prog 16 #[.pointer (some ⟨p, 0, none⟩)] w fun e w' => e = .returned (.agg #[.int .i64 0, .int .i64 0, .int .i64 0]) ∧ SrcAt w' p g s 0 s.size (overN false (nats s)) ∧ Turn [p, g] w w' := by
  have hle := overN_le false (nats s)
  rw [nats_len] at hle
  have := tokOver_yes (k := 0) h ⟨Nat.le_refl _, Nat.zero_le _, Nat.le_refl _, by omega⟩ (by rw [Led.used_zero]; exact hl) rfl T0.ok (show (0 : Int) + ((0 : Nat) : Int) + ((overN false ((nats s).drop 0) : Nat) : Int) + 1 ≤ 100000 by rw [List.drop_zero]; omega)
  refine this.mono ?_
  simp only [List.drop_zero, Nat.zero_add]
  rintro e w' ⟨rfl, q1, _, q3⟩
  exact ⟨rfl, q1, q3⟩

theorem num_good {l : List Nat} (hk : (numberAt l 0).Kind = 0) : ∃ V f n : Nat, numberAt l 0 = ⟨V, f, n, 0, 0⟩ ∧ f < l.length := by
  have hy0 : ∀ y : Got, y = numberAt l 0 → y.Kind = 0 → ∃ V f n' : Nat, y = ⟨V, f, n', 0, 0⟩ ∧ f < l.length := by
    intro y hy hk
    unfold numberAt at hy
    simp only at hy
    split at hy
    · rw [hy] at hk; cases hk
    · split at hy
      · exact ⟨_, _, _, hy, by omega⟩
      · rw [hy] at hk; cases hk
  exact hy0 _ rfl hk
theorem num_bad {l : List Nat} (hk : (numberAt l 0).Kind ≠ 0) : ∃ kd pl : Nat, numberAt l 0 = ⟨0, 0, 0, kd, pl⟩ ∧ kd ≠ 0 ∧ pl ≤ l.length := by
  have hy0 : ∀ y : Got, y = numberAt l 0 → y.Kind ≠ 0 → ∃ kd pl : Nat, y = ⟨0, 0, 0, kd, pl⟩ ∧ kd ≠ 0 ∧ pl ≤ l.length := by
    intro y hy hk
    unfold numberAt at hy
    simp only at hy
    split at hy
    · exact ⟨1, _, hy, by decide, Nat.le_refl _⟩
    · split at hy
      · rw [hy] at hk; exact absurd rfl hk
      · exact ⟨2, _, hy, by decide, by omega⟩
  exact hy0 _ rfl hk
section
variable (bl s : ByteArray) (hb : bl.size ≤ 100) (hs : s.size ≤ 100)
theorem sz32 (hb : bl.size ≤ 100) : (bl ++ (⟨#[32]⟩ : ByteArray)).size ≤ 1000 := by rw [ByteArray.size_append]; show bl.size + 1 ≤ 1000; omega
theorem sz10 (hb : bl.size ≤ 100) : (bl ++ (⟨#[10]⟩ : ByteArray)).size ≤ 1000 := by rw [ByteArray.size_append]; show bl.size + 1 ≤ 1000; omega
theorem szT (hb : bl.size ≤ 100) (hs : s.size ≤ 100) : (bl ++ (⟨#[10]⟩ : ByteArray) ++ s).size ≤ 1000 := by rw [ByteArray.size_append, ByteArray.size_append]; show bl.size + 1 + s.size ≤ 1000; omega

set_option maxRecDepth 100000 in
set_option maxHeartbeats 1000000 in
theorem blanks_c1 (w : World) (hb : bl.size ≤ 100) (hs : s.size ≤ 100) (h1 : overN false (nats (bl ++ (⟨#[32]⟩ : ByteArray))) ≠ bl.size + 1 ∨ overN false (nats bl) ≠ bl.size) :
    Calls Try.prog 4 #[.string bl, .string s] w fun e w' => e = .returned (.bool true) ∧ Below w.heap.size w w' := by
  have i1 : ¬ (100 : Int) < (bl.size : Int) := by omega
  have i2 : ¬ (100 : Int) < (s.size : Int) := by omega
  have z32 := Lib.hid (sz32 bl hb)
  have zb := Lib.hid (show bl.size ≤ 1000 by omega)
  have HO1 := Lib.hid (fun w => refOver0 (bl ++ (⟨#[32]⟩ : ByteArray)) w z32.out)
  have HO2 := Lib.hid (fun w => refOver0 bl w zb.out)
  generalize overN false (nats (bl ++ (⟨#[32]⟩ : ByteArray))) = n1 at h1 HO1
  generalize overN false (nats bl) = n2 at h1 HO2
  by_cases hn1 : n1 = bl.size + 1
  · subst hn1
    have hn2 : ¬ (n2 : Int) = (bl.size : Int) := by omega
    clear h1
    go_enter Try.func4, Try.ntmps4
    go_wp2_with (first
      | (go_at_call 15; have := k1; refine (HO2.out _).mono ?_; rintro e w1 ⟨rfl, rfl⟩)
      | (go_at_call 15; refine (HO1.out _).mono ?_; rintro e w1 ⟨rfl, rfl⟩; have k1 := trivial)
      | (go_at_call 11; refine (awake11_any _).mono ?_; rintro e w5 ⟨rfl, b5⟩))
    all_goals go_ret
    all_goals exact ⟨rfl, b5⟩
  · have hn1' : ¬ (n1 : Int) = (bl.size : Int) + 1 := by omega
    clear h1
    go_enter Try.func4, Try.ntmps4
    go_wp2_with (first
      | (go_at_call 15; have := k1; refine (HO2.out _).mono ?_; rintro e w1 ⟨rfl, rfl⟩)
      | (go_at_call 15; refine (HO1.out _).mono ?_; rintro e w1 ⟨rfl, rfl⟩; have k1 := trivial)
      | (go_at_call 11; refine (awake11_any _).mono ?_; rintro e w5 ⟨rfl, b5⟩))
    all_goals go_ret
    all_goals exact ⟨rfl, b5⟩

set_option maxRecDepth 100000 in
set_option maxHeartbeats 1000000 in
theorem blanks_c3 (w : World) (hb : bl.size ≤ 100) (hs : s.size ≤ 100) (h1 : overN false (nats (bl ++ (⟨#[32]⟩ : ByteArray))) = bl.size + 1) (h2 : overN false (nats bl) = bl.size) (h3 : overN false (nats (bl ++ (⟨#[10]⟩ : ByteArray))) ≠ bl.size + 1) :
    Calls Try.prog 4 #[.string bl, .string s] w fun e w' => e = .returned (.bool true) ∧ Below w.heap.size w w' := by
  have i1 : ¬ (100 : Int) < (bl.size : Int) := by omega
  have i2 : ¬ (100 : Int) < (s.size : Int) := by omega
  have z32 := Lib.hid (sz32 bl hb)
  have zb := Lib.hid (show bl.size ≤ 1000 by omega)
  have zs := Lib.hid (show s.size ≤ 1000 by omega)
  have z10 := Lib.hid (sz10 bl hb)
  have zT := Lib.hid (szT bl s hb hs)
  have HO1 := Lib.hid (fun w => refOver0 (bl ++ (⟨#[32]⟩ : ByteArray)) w z32.out)
  have HO2 := Lib.hid (fun w => refOver0 bl w zb.out)
  have HO3 := Lib.hid (fun w => refOver0 (bl ++ (⟨#[10]⟩ : ByteArray)) w z10.out)
  rw [h1] at HO1
  rw [h2] at HO2
  generalize overN false (nats (bl ++ (⟨#[10]⟩ : ByteArray))) = n3 at h3 HO3
  have hn3 : ¬ (n3 : Int) = (bl.size : Int) + 1 := by omega
  clear h1 h2 h3
  go_enter Try.func4, Try.ntmps4
  go_wp2_with (first
      | (go_at_call 10; have := kf2; refine (fresh_any (bl ++ (⟨#[10]⟩ : ByteArray) ++ s) _).mono ?_; rintro e w3 ⟨p3, g3, rfl, hp3, hg3, h3, l3, b3⟩; have s31 := Blk.below s21 b3 (Blk.lt s21); have l31 := Blk.below l21 b3 (Blk.lt l21); have s32 := Blk.below h2' b3 (Blk.lt h2'); have l32 := Blk.below l2' b3 (Blk.lt l2'); have bb3 := below_next bb2 b3)
      | (go_at_call 10; have := kf1; refine (fresh_any s _).mono ?_; rintro e w2 ⟨p2, g2, rfl, hp2, hg2, h2', l2', b2⟩; have s21 := Blk.below h1' b2 (Blk.lt h1'); have l21 := Blk.below l1' b2 (Blk.lt l1'); have bb2 := below_next b1 b2; have kf2 := trivial)
      | (go_at_call 10; refine (fresh_any (bl ++ (⟨#[10]⟩ : ByteArray) ++ s) _).mono ?_; rintro e w1 ⟨p1, g1, rfl, hp1, hg1, h1', l1', b1⟩; have kf1 := trivial)
      | (go_at_call 15; have := k2; refine (HO3.out _).mono ?_; rintro e w9 ⟨rfl, rfl⟩; have k3 := trivial)
      | (go_at_call 15; have := k1; refine (HO2.out _).mono ?_; rintro e w9 ⟨rfl, rfl⟩; have k2 := trivial)
      | (go_at_call 15; refine (HO1.out _).mono ?_; rintro e w9 ⟨rfl, rfl⟩; have k1 := trivial)
      | (go_at_call 11; refine (awake11_any _).mono ?_; rintro e w8 ⟨rfl, b8⟩))
  all_goals go_ret
  all_goals exact ⟨rfl, below_next bb2 b8⟩

end
end Go.Proofs.Ytncdchaecbndlab
