/- The law TokenSpent. -/
import Derived.Test.YtncdchaecbndlabTokNumW
import Derived.OpenShut
namespace Go.Proofs.Ytncdchaecbndlab
open Go.RowKit
set_option linter.unusedVariables false
set_option linter.unusedSimpArgs false

theorem steps_at {w : World} {g : Nat} {x : Led} {q : Int} (h : LedAt w g x) (e : x.steps = q) :
    Calls Try.prog 20 #[.pointer (some ⟨g, 0, none⟩)] w fun e w' => e = .returned (.int .i64 q) ∧ w = w' := by
  have hc := h.steps
  rw [e] at hc
  clear h e
  go_enter Try.func20, Try.ntmps20
  go_wp2_with (first | (go_at_call 43; refine (load64 _ _ _ hc).mono ?_; rintro e w' ⟨rfl, rfl⟩))
  go_ret
  exact ⟨rfl, rfl⟩

theorem tokNumber_spent {w : World} {p g : Nat} {s : ByteArray} {a k r : Nat} {x : Led} (h : SrcAt w p g s 0 s.size a) (o : SrcOk s 0 s.size a) (hl : LedAt w g (x.used k)) (hx : x.reason = 0) (ok : x.Ok) (hs : x.steps + k + r = x.S) (hr : r < nCost (nats s) a) :
    Calls Try.prog 12 #[.pointer (some ⟨p, 0, none⟩)] w fun e w' => ∃ z : Nat, z ≤ s.size ∧ e = .returned (.tuple #[.int .i64 0, .int .i64 0, .agg #[.int .i64 4, .int .i64 3, .int .i64 (z : Int)]]) ∧ LedAt w' g ((x.used (k + r)).refused 3 1) ∧ Turn [p, g] w w' := by
  have hlen := nats_len s
  have hal := o.at_
  have hle := overN_le false ((nats s).drop a)
  rw [List.length_drop, hlen] at hle
  obtain ⟨f, hf⟩ : ∃ f, f = a + overN false ((nats s).drop a) := ⟨_, rfl⟩
  by_cases h0 : r < f - a + 2
  · exact tokNumber_spent1 h o hl hx ok hf hs h0
  · unfold nCost at hr
    simp only [← hf] at hr
    by_cases h1 : (nats s).length ≤ f
    · rw [if_pos h1] at hr; omega
    · rw [if_neg h1] at hr
      by_cases h2 : isDigit ((nats s).getD f 0) = true
      · rw [if_pos h2, hlen] at hr
        exact tokNumber_spent2 (dn := digN ((nats s).drop f)) (dt := if f + digN ((nats s).drop f) < s.size then 1 else 0) h o hl hx ok hf (by omega) h2 rfl rfl hs (by omega) hr
      · rw [if_neg h2] at hr; omega

def TW (n : Nat) : Led := ⟨0, 0, 0, (n : Int), 0, 0, 0, 0, 0⟩
theorem TW.ok {n : Nat} (h : n ≤ 255) : (TW n).Ok := by constructor <;> simp only [TW] <;> omega
theorem TW_new (n : Nat) : Led.new 0 0 0 (n : Int) = TW n := by
  unfold Led.new TW
  simp only [nought, Led.mk.injEq, and_true, true_and]
  refine ⟨rfl, rfl, rfl, ?_⟩
  rw [if_neg (by omega)]

set_option maxRecDepth 100000 in
set_option maxHeartbeats 1000000 in
theorem tokenSpent_walk (w : World) (s : ByteArray) (hs : s.size ≤ 200) (n : Nat) (hn : n ≤ 255) :
    Calls Try.prog 5 #[.string s, .int .u8 (n : Int)] w fun e w' => e = .returned (.bool true) ∧ Below w.heap.size w w' := by
  have i1 : ¬ (200 : Int) < (s.size : Int) := by omega
  have hR := fun w => refNumber_any s 0 w (Nat.zero_le _) (by omega)
  have hnc := nCost_le (nats s) 0 (Nat.zero_le _)
  rw [nats_len] at hnc
  have hO : SrcOk s 0 s.size 0 := ⟨Nat.le_refl _, Nat.zero_le _, Nat.le_refl _, by omega⟩
  by_cases hc : nCost (nats s) 0 ≤ n
  · have hst : (((TW n).used (0 + nCost (nats s) 0)).steps) = (nCost (nats s) 0 : Int) := by simp [TW, Led.used]
    have hle : ¬ (n : Int) < (nCost (nats s) 0 : Int) := by omega
    have HST := Lib.hid hst
    have hN := fun (w : World) (p g : Nat) (h : SrcAt w p g s 0 s.size 0) (hl : LedAt w g (TW n)) => tokNumber_cases (k := 0) h hO (by rw [Led.used_zero]; exact hl) rfl (TW.ok hn) (show (0 : Int) + (0 : Nat) + (nCost (nats s) 0 : Int) ≤ (n : Int) by omega)
    by_cases hbad : (numberAt (nats s) 0).Kind = 0
    · obtain ⟨V, f, n', hy⟩ : ∃ V f n' : Nat, numberAt (nats s) 0 = ⟨V, f, n', 0, 0⟩ := by
        have hy0 : ∀ y : Got, y = numberAt (nats s) 0 → y.Kind = 0 → ∃ V f n' : Nat, y = ⟨V, f, n', 0, 0⟩ := by
          intro y hy hk
          unfold numberAt at hy
          simp only at hy
          split at hy
          · rw [hy] at hk; cases hk
          · split at hy
            · exact ⟨_, _, _, hy⟩
            · rw [hy] at hk; cases hk
        exact hy0 _ rfl hbad
      rw [hy] at hR
      have HR : Hid (∀ w : World, Calls Try.prog 13 #[.string s, .int .i64 0] w fun e w' => e = .returned (.agg #[.int .i64 (V : Int), .int .i64 (f : Int), .int .i64 (n' : Int), .int .i64 0, .int .i64 0]) ∧ Below w.heap.size w w') := Lib.hid hR
      have hN2 : ∀ (w : World) (p g : Nat), SrcAt w p g s 0 s.size 0 → LedAt w g (TW n) → Calls Try.prog 12 #[.pointer (some ⟨p, 0, none⟩)] w fun e w' => e = .returned (.tuple #[.int .i64 (V : Int), .int .i64 (f : Int), .agg #[.int .i64 0, .int .i64 0, .int .i64 0]]) ∧ SrcAt w' p g s 0 s.size n' ∧ LedAt w' g ((TW n).used (0 + nCost (nats s) 0)) ∧ Turn [p, g] w w' := by
        intro w p g h hl
        rcases hN w p g h hl with ⟨kd, pl, hy2, hk0, _⟩ | ⟨V2, f2, n2, hy2, _, hc2⟩
        · rw [hy] at hy2
          cases hy2
          exact absurd rfl hk0
        · rw [hy] at hy2
          cases hy2
          exact hc2
      have HN := Lib.hid hN2
      clear hR hN hN2 hy hbad hst hc
      generalize nCost (nats s) 0 = cc at HST HN hle
      go_enter Try.func5, Try.ntmps5
      go_wp2_with (first
        | (go_at_call 18; refine (ledNew_at (TW_new n) _).mono ?_; rintro e w0 ⟨g, rfl, hgB, h0, b0⟩)
        | (go_at_call 19; refine (srcNew_any g s _).mono ?_; rintro e w1 ⟨p, rfl, hp, h1, b1⟩; have l1 := Blk.below h0 b1 (Blk.lt h0); have bb1 := below_next b0 b1; have hp0 := b0.size)
        | (go_at_call 12; refine (HN.out _ p g h1 l1).mono ?_; rintro e w2 ⟨rfl, s2, l2, t2⟩; have bb2 := Turn.belowNext bb1 t2 (by simp; omega) bb1.size)
        | (go_at_call 13; refine (HR.out _).mono ?_; rintro e w3 ⟨rfl, b3⟩; have hz3 := below_box_size b3; have y0 : w3.cell? ⟨w2.heap.size, 0, none⟩ = some (.int .i64 0) := (b3.cell (p := ⟨w2.heap.size, 0, none⟩) (by simp)).trans (cell_new _ _ _ 0 _ rfl); have y1 : w3.cell? ⟨w2.heap.size, 1, none⟩ = some (.int .i64 0) := (b3.cell (p := ⟨w2.heap.size, 1, none⟩) (by simp)).trans (cell_new _ _ _ 1 _ rfl); have y2 : w3.cell? ⟨w2.heap.size, 2, none⟩ = some (.int .i64 0) := (b3.cell (p := ⟨w2.heap.size, 2, none⟩) (by simp)).trans (cell_new _ _ _ 2 _ rfl); have s3 := Blk.below s2 (below_box b3) (Blk.lt s2); have l3 := Blk.below l2 (below_box b3) (Blk.lt l2); have s3' : SrcAt (w3.alloc (.cells #[.int .i64 (V : Int), .int .i64 (f : Int), .int .i64 (n' : Int), .int .i64 0, .int .i64 0] 30)) p g s 0 s.size n' := Blk.alloc s3 _; have l3' : LedAt (w3.alloc (.cells #[.int .i64 (V : Int), .int .i64 (f : Int), .int .i64 (n' : Int), .int .i64 0, .int .i64 0] 30)) g _ := Blk.alloc l3 _; have bb3 := below_next bb2 (below_box b3))
        | (go_at_call 20; refine (steps_at l3' HST.out).mono ?_; rintro e w9 ⟨rfl, rfl⟩)
        | (go_at_call 14; refine (same_ok (V := V) (f := f) (n := n') s3').mono ?_; rintro e w4 ⟨rfl, b4⟩; have bb4 := below_next bb3 (below_box b4))
        | (go_at_call 11; refine (awake11_any _).mono ?_; rintro e w5 ⟨rfl, b5⟩))
      go_ret
      exact ⟨rfl, below_next bb4 b5⟩
    · obtain ⟨kd, pl, hy, hk0, hk2⟩ : ∃ kd pl : Nat, numberAt (nats s) 0 = ⟨0, 0, 0, kd, pl⟩ ∧ kd ≠ 0 ∧ kd ≤ 2 := by
        have hy0 : ∀ y : Got, y = numberAt (nats s) 0 → y.Kind ≠ 0 → ∃ kd pl : Nat, y = ⟨0, 0, 0, kd, pl⟩ ∧ kd ≠ 0 ∧ kd ≤ 2 := by
          intro y hy hk
          unfold numberAt at hy
          simp only at hy
          split at hy
          · exact ⟨1, _, hy, by decide, by decide⟩
          · split at hy
            · rw [hy] at hk; exact absurd rfl hk
            · exact ⟨2, _, hy, by decide, by decide⟩
        exact hy0 _ rfl hbad
      rw [hy] at hR
      have HR : Hid (∀ w : World, Calls Try.prog 13 #[.string s, .int .i64 0] w fun e w' => e = .returned (.agg #[.int .i64 0, .int .i64 0, .int .i64 0, .int .i64 (kd : Int), .int .i64 (pl : Int)]) ∧ Below w.heap.size w w') := Lib.hid hR
      have hN2 : ∀ (w : World) (p g : Nat), SrcAt w p g s 0 s.size 0 → LedAt w g (TW n) → Calls Try.prog 12 #[.pointer (some ⟨p, 0, none⟩)] w fun e w' => e = .returned (.tuple #[.int .i64 0, .int .i64 0, .agg #[.int .i64 (kd : Int), .int .i64 3, .int .i64 (pl : Int)]]) ∧ LedAt w' g ((TW n).used (0 + nCost (nats s) 0)) ∧ Turn [p, g] w w' := by
        intro w p g h hl
        rcases hN w p g h hl with ⟨kd2, pl2, hy2, hk02, _, _, hc2⟩ | ⟨V2, f2, n2, hy2, _, hc2⟩
        · rw [hy] at hy2
          cases hy2
          exact hc2
        · rw [hy] at hy2
          cases hy2
          exact absurd rfl hk0
      have HN := Lib.hid hN2
      have hk4 : ¬ (kd : Int) = 4 := by omega
      clear hR hN hN2 hy hbad hst hc
      generalize nCost (nats s) 0 = cc at HST HN hle
      go_enter Try.func5, Try.ntmps5
      go_wp2_with (first
        |(go_at_call 18; refine (ledNew_at (TW_new n) _).mono ?_; rintro e w0 ⟨g, rfl, hgB, h0, b0⟩)
        | (go_at_call 19; refine (srcNew_any g s _).mono ?_; rintro e w1 ⟨p, rfl, hp, h1, b1⟩; have l1 := Blk.below h0 b1 (Blk.lt h0); have bb1 := below_next b0 b1; have hp0 := b0.size)
        | (go_at_call 12; refine (HN.out _ p g h1 l1).mono ?_; rintro e w2 ⟨rfl, l2, t2⟩; have bb2 := Turn.belowNext bb1 t2 (by simp; omega) bb1.size)
        | (go_at_call 13; refine (HR.out _).mono ?_; rintro e w3 ⟨rfl, b3⟩; have hz3 := below_box_size b3; have y0 : w3.cell? ⟨w2.heap.size, 0, none⟩ = some (.int .i64 (kd : Int)) := (b3.cell (p := ⟨w2.heap.size, 0, none⟩) (by simp)).trans (cell_new _ _ _ 0 _ rfl); have y1 : w3.cell? ⟨w2.heap.size, 1, none⟩ = some (.int .i64 3) := (b3.cell (p := ⟨w2.heap.size, 1, none⟩) (by simp)).trans (cell_new _ _ _ 1 _ rfl); have y2 : w3.cell? ⟨w2.heap.size, 2, none⟩ = some (.int .i64 (pl : Int)) := (b3.cell (p := ⟨w2.heap.size, 2, none⟩) (by simp)).trans (cell_new _ _ _ 2 _ rfl); have l3 := Blk.below l2 (below_box b3) (Blk.lt l2); have l3' : LedAt (w3.alloc (.cells #[.int .i64 0, .int .i64 0, .int .i64 0, .int .i64 (kd : Int), .int .i64 (pl : Int)] 30)) g _ := Blk.alloc l3 _; have bb3 := below_next bb2 (below_box b3))
        | (go_at_call 20; refine (steps_at l3' HST.out).mono ?_; rintro e w9 ⟨rfl, rfl⟩)
        | (go_at_call 14; refine (same_bad kd pl hk0 _ _).mono ?_; rintro e w4 ⟨rfl, b4⟩; have bb4 := below_next bb3 (below_box b4))
        | (go_at_call 11; refine (awake11_any _).mono ?_; rintro e w5 ⟨rfl, b5⟩))
      go_ret
      exact ⟨rfl, below_next bb4 b5⟩
  · have hst : ((((TW n).used (0 + n)).refused 3 1).steps) = (n : Int) := by simp [TW, Led.used, Led.refused]
    have HST := Lib.hid hst
    have HR := Lib.hid hR
    have hlt : (n : Int) < (s.size : Int) + 2 := by omega
    have HN := Lib.hid (fun (w : World) (p g : Nat) (h : SrcAt w p g s 0 s.size 0) (hl : LedAt w g (TW n)) => tokNumber_spent (k := 0) (r := n) h hO (by rw [Led.used_zero]; exact hl) rfl (TW.ok hn) (show (0 : Int) + ((0 : Nat) : Int) + (n : Int) = (n : Int) by omega) (by omega))
    generalize numberAt (nats s) 0 = y at HR
    unfold gotV at HR
    clear hR hst hc hnc
    go_enter Try.func5, Try.ntmps5
    go_wp2_with (first
      |(go_at_call 18; refine (ledNew_at (TW_new n) _).mono ?_; rintro e w0 ⟨g, rfl, hgB, h0, b0⟩)
      | (go_at_call 19; refine (srcNew_any g s _).mono ?_; rintro e w1 ⟨p, rfl, hp, h1, b1⟩; have l1 := Blk.below h0 b1 (Blk.lt h0); have bb1 := below_next b0 b1; have hp0 := b0.size)
      | (go_at_call 12; refine (HN.out _ p g h1 l1).mono ?_; rintro e w2 ⟨z, hz, rfl, l2, t2⟩; have bb2 := Turn.belowNext bb1 t2 (by simp; omega) bb1.size; have hzi : (z : Int) ≤ (s.size : Int) := (by omega))
      | (go_at_call 13; refine (HR.out _).mono ?_; rintro e w3 ⟨rfl, b3⟩; have hz3 := below_box_size b3; have y0 : w3.cell? ⟨w2.heap.size, 0, none⟩ = some (.int .i64 4) := (b3.cell (p := ⟨w2.heap.size, 0, none⟩) (by simp)).trans (cell_new _ _ _ 0 _ rfl); have y1 : w3.cell? ⟨w2.heap.size, 1, none⟩ = some (.int .i64 3) := (b3.cell (p := ⟨w2.heap.size, 1, none⟩) (by simp)).trans (cell_new _ _ _ 1 _ rfl); have y2 : w3.cell? ⟨w2.heap.size, 2, none⟩ = some (.int .i64 (z : Int)) := (b3.cell (p := ⟨w2.heap.size, 2, none⟩) (by simp)).trans (cell_new _ _ _ 2 _ rfl); have l3 := Blk.below l2 (below_box b3) (Blk.lt l2); have l3' : LedAt (w3.alloc (.cells #[.int .i64 (y.V : Int), .int .i64 (y.At : Int), .int .i64 (y.Next : Int), .int .i64 (y.Kind : Int), .int .i64 (y.Place : Int)] 30)) g _ := Blk.alloc l3 _; have bb3 := below_next bb2 (below_box b3); have bb3' := bb3.alloc bb3.size (.cells #[.int .i64 (y.V : Int), .int .i64 (y.At : Int), .int .i64 (y.Next : Int), .int .i64 (y.Kind : Int), .int .i64 (y.Place : Int)] 30))
      | (go_at_call 20; refine (steps_at l3' HST.out).mono ?_; rintro e w9 ⟨rfl, rfl⟩)
      | (go_at_call 11; refine (awake11_any _).mono ?_; rintro e w5 ⟨rfl, b5⟩))
    go_ret
    exact ⟨rfl, below_next bb3' b5⟩

theorem tokenSpent_said (w : World) (s : ByteArray) (hs : s.size ≤ maxLen) (n : Int) (hn : (Lit.int .u8 n).wf = true) :
    Calls Try.prog 5 #[.string s, .int .u8 n] w fun e w' => e = .returned (.bool true) ∧ Below w.heap.size w w' := by
  obtain ⟨n0, n1⟩ := bounds_u8 hn
  obtain ⟨m, rfl⟩ : ∃ m : Nat, n = m := ⟨n.toNat, by omega⟩
  by_cases h : s.size ≤ 200
  · exact tokenSpent_walk w s h m (by omega)
  · have i1 : (200 : Int) < (s.size : Int) := by omega
    clear hn
    go_enter Try.func5, Try.ntmps5
    go_wp2_with (go_at_call 11; refine (awake11_any _).mono ?_; rintro e w5 ⟨rfl, b5⟩)
    go_ret
    exact ⟨rfl, b5⟩
end Go.Proofs.Ytncdchaecbndlab
