/- qoi: what is wrong with a head. -/
import Derived.Test.YtojobfnbakiicaaGreatQoiY
import Derived.Test.YtojobfnbakiicaaGreatWrA
namespace Go.Proofs.YtojobfnbakiicaaGreat
open Go.RowKit
set_option linter.unusedVariables false
set_option linter.unusedSimpArgs false

theorem qoiWb_at {j : Nat} (h : j < 4) (w : World) : (Instr.index 9 (.string ⟨#[113, 111, 105, 102]⟩) (.int .i64 (j : Int))).run Tryz.prog w = .ok (.int .u8 ((qoiW.getD j 0 : Nat) : Int)) w := by
  rcases (by omega : j = 0 ∨ j = 1 ∨ j = 2 ∨ j = 3) with rfl | rfl | rfl | rfl
  all_goals kernel_rfl
set_option maxRecDepth 100000 in
set_option maxHeartbeats 1000000 in
theorem qoiCheck_word {b : ByteArray} {i : Nat} (hb : b.size = 14) (hi : i < 4) (o : Off b qoiW 0 4 i) (w : World) :
    Calls Tryz.prog 110 #[.string b, .int .i64 0] w fun e w' => e = .returned (.agg #[.int .i64 2, .int .i64 5, .int .i64 (i : Int)]) ∧ Below w.heap.size w w' := by
  go_enter Tryz.func110, Tryz.ntmps110
  go_wp2_with fail
  obtain ⟨F0, B0, G0⟩ := fb_new w
  generalize w.alloc (.cells #[.int .i64 0, .int .i64 0, .int .i64 0] 31) = ws at F0 B0 ⊢
  generalize hg : w.heap.size = g at F0 G0 ⊢
  have HG := Lib.hid hg
  clear hg
  have H0 := Lib.hid F0
  have H1 := Lib.hid B0
  clear F0 B0
  go_loopg [9] 4 (fun m k wr => ∃ j : Nat, j + m = 4 ∧ j ≤ i ∧ k = .int .i64 (j : Int) ∧ FB0 wr g ∧ Below w.heap.size w wr)
  case atStart => exact ⟨0, by omega, by omega, rfl, H0.out, H1.out⟩
  case round =>
    obtain ⟨j, hj, hji, rfl, f1, b1⟩ := hrel
    have F1 := Lib.hid f1
    have B1 := Lib.hid b1
    have hlt : (j : Int) < 4 := by omega
    have hjs : (j : Int) < (b.size : Int) := by omega
    have hjs' : j < b.size := by omega
    have hlit := qoiWb_at (j := j) (by omega)
    have hbat := bat_eq hjs'
    obtain ⟨c, hc⟩ : ∃ c, qoiW.getD j 0 = c := ⟨_, rfl⟩
    rw [hc] at hlit
    by_cases he : j = i
    · subst he
      have hne : ((b[j].toNat : Nat) : Int) ≠ (c : Int) := by
        have := o.stop (by omega)
        rw [hbat, hc] at this
        omega
      clear hb hbat f1 b1
      go_wp2_with fail
      go_region
      go_wp2_with (go_at_call 120; refine (qoiBadC 2 _ _).mono ?_; rintro e w5 ⟨rfl, b5⟩; have f5 : FB0 w5 g := Blk.below F1.out.drew b5 (Blk.lt F1.out); have c0 := Blk.cell f5 0; have c1 := Blk.cell f5 1; have c2 := Blk.cell f5 2; have z0 := Blk.frozen f5 0; have z1 := Blk.frozen f5 1; have z2 := Blk.frozen f5 2; have fl := Blk.lt f5)
      exact bodyPost_ret (v := .agg #[.int .i64 2, .int .i64 5, .int .i64 (j : Int)]) (by simp [results, Tryz.results110, go_sem, c0, c1, c2]) rfl ⟨rfl, below_set3 (below_next B1.out.drew b5) (Nat.le_of_eq HG.out)⟩
    · have heq : ((b[j].toNat : Nat) : Int) = (c : Int) := by
        have := o.same j (by omega) (by omega)
        rw [hbat, hc] at this
        omega
      clear hb hbat f1 b1
      go_wp2_with fail
      go_region
      go_wp2_with fail
      go_roundg (4 - (j + 1))
      case measure => omega
      case rel => exact ⟨j + 1, by omega, by omega, by go_num, F1.out.drew, B1.out.drew⟩
set_option maxRecDepth 100000 in
set_option maxHeartbeats 2000000 in
theorem qoiCheck_side {b : ByteArray} {v1 v2 v3 v4 : Nat} {r : Value} (hb : b.size = 14) (o : Off b qoiW 0 4 4) (e1 : beN b 4 4 = v1) (e2 : beN b 8 4 = v2) (e3 : bat b 12 = v3) (e4 : bat b 13 = v4)
    (hr : (v1 = 0 ∧ r = .agg #[.int .i64 2, .int .i64 5, .int .i64 4]) ∨ (16384 < v1 ∧ r = .agg #[.int .i64 3, .int .i64 5, .int .i64 4]) ∨ (1 ≤ v1 ∧ v1 ≤ 16384 ∧ v2 = 0 ∧ r = .agg #[.int .i64 2, .int .i64 5, .int .i64 8]) ∨ (1 ≤ v1 ∧ v1 ≤ 16384 ∧ 16384 < v2 ∧ r = .agg #[.int .i64 3, .int .i64 5, .int .i64 8]) ∨ (1 ≤ v1 ∧ v1 ≤ 16384 ∧ 1 ≤ v2 ∧ v2 ≤ 16384 ∧ (v3 ≠ 3 ∧ v3 ≠ 4) ∧ True ∧ r = .agg #[.int .i64 2, .int .i64 5, .int .i64 12]) ∨ (1 ≤ v1 ∧ v1 ≤ 16384 ∧ 1 ≤ v2 ∧ v2 ≤ 16384 ∧ (v3 = 3 ∨ v3 = 4) ∧ 1 < v4 ∧ r = .agg #[.int .i64 2, .int .i64 5, .int .i64 13]) ∨ (1 ≤ v1 ∧ v1 ≤ 16384 ∧ 1 ≤ v2 ∧ v2 ≤ 16384 ∧ (v3 = 3 ∨ v3 = 4) ∧ v4 ≤ 1 ∧ r = .agg #[.int .i64 0, .int .i64 0, .int .i64 0])) (w : World) :
    Calls Tryz.prog 110 #[.string b, .int .i64 0] w fun e w' => e = .returned r ∧ Below w.heap.size w w' := by
  have H1 := Lib.hid (fun w => qoiHigh_at (x := b) (a := 4) (v := v1) (by omega) (by omega) e1 w)
  have H2 := Lib.hid (fun w => qoiHigh_at (x := b) (a := 8) (v := v2) (by omega) (by omega) e2 w)
  have n12 : 12 < b.size := by omega
  have n13 : 13 < b.size := by omega
  rw [bat_eq n12] at e3
  rw [bat_eq n13] at e4
  have E3 := Lib.hid e3
  have E4 := Lib.hid e4
  have i12 : (12 : Int) < (b.size : Int) := by omega
  have i13 : (13 : Int) < (b.size : Int) := by omega
  obtain ⟨hi0, hi1⟩ := idx2 (.int .i64 4) (.int .i64 8)
  have hbn : 14 ≤ b.size := by omega
  have HR := Lib.hid hr
  have O := Lib.hid o
  clear e1 e2 e3 e4 hr hb o
  go_enter Tryz.func110, Tryz.ntmps110
  go_wp2_with fail
  obtain ⟨F0, B0, G0⟩ := fb_new w
  generalize w.alloc (.cells #[.int .i64 0, .int .i64 0, .int .i64 0] 31) = ws at F0 B0 ⊢
  generalize hg : w.heap.size = g at F0 G0 ⊢
  have HG := Lib.hid hg
  clear hg
  have J0 := Lib.hid F0
  have J1 := Lib.hid B0
  clear F0 B0
  go_loopg [9] 4 (fun m k wr => ∃ j : Nat, j + m = 4 ∧ k = .int .i64 (j : Int) ∧ FB0 wr g ∧ Below w.heap.size w wr)
  case atStart => exact ⟨0, by omega, rfl, J0.out, J1.out⟩
  case round =>
    obtain ⟨j, hj, rfl, f1, b1'⟩ := hrel
    have F1 := Lib.hid f1
    have B1 := Lib.hid b1'
    by_cases hlt' : j < 4
    · have hlt : (j : Int) < 4 := by omega
      have hjs : (j : Int) < (b.size : Int) := by omega
      have hjs' : j < b.size := by omega
      have hlit := qoiWb_at (j := j) (by omega)
      have hbat := bat_eq hjs'
      obtain ⟨c, hc⟩ : ∃ c, qoiW.getD j 0 = c := ⟨_, rfl⟩
      rw [hc] at hlit
      have heq : ((b[j].toNat : Nat) : Int) = (c : Int) := by
        have := O.out.same j (by omega) (by omega)
        rw [hbat, hc] at this
        omega
      clear hbat f1 b1'
      go_wp2_with fail
      go_region
      go_wp2_with fail
      go_roundg (4 - (j + 1))
      case measure => omega
      case rel => exact ⟨j + 1, by omega, by go_num, F1.out.drew, B1.out.drew⟩
    · obtain rfl : j = 4 := by omega
      clear f1 b1'
      go_wp2_with fail
      go_loopg [24] 2 (fun k at' wr => ((k = 2 ∧ at' = .int .i64 0) ∨ (k = 1 ∧ at' = .int .i64 1 ∧ 1 ≤ v1 ∧ v1 ≤ 16384) ∨ (k = 0 ∧ at' = .int .i64 2 ∧ 1 ≤ v1 ∧ v1 ≤ 16384 ∧ 1 ≤ v2 ∧ v2 ≤ 16384)) ∧ FB0 wr g ∧ Below w.heap.size w wr)
      case atStart => exact ⟨.inl ⟨rfl, rfl⟩, F1.out, B1.out⟩
      case round =>
        obtain ⟨hk, f2, b2⟩ := hrel
        have F2 := Lib.hid f2
        have F2d : FB0 wr.drew g := f2
        have B2 := Lib.hid b2
        rcases hk with ⟨rfl, rfl⟩ | ⟨rfl, rfl, p1, p2⟩ | ⟨rfl, rfl, p1, p2, p3, p4⟩
        · clear f2 b2
          by_cases q0 : v1 = 0
          · have q0' : (v1 : Int) = 0 := by omega
            go_wp2_with (first | (go_at_call_of 111 (Value.int .i64 4); refine (H1.out _).mono ?_; rintro e w3 ⟨rfl, rfl⟩) | (go_at_call 120; refine (qoiBadC 2 _ _).mono ?_; rintro e w5 ⟨rfl, b5⟩; have f5 : FB0 w5 g := Blk.below F2d b5 (Blk.lt F2d); have c0 := Blk.cell f5 0; have c1 := Blk.cell f5 1; have c2 := Blk.cell f5 2; have z0 := Blk.frozen f5 0; have z1 := Blk.frozen f5 1; have z2 := Blk.frozen f5 2; have fl := Blk.lt f5))
            have hr : r = .agg #[.int .i64 2, .int .i64 5, .int .i64 4] := by rcases HR.out with ⟨_, h⟩ | ⟨_, h⟩ | ⟨_, _, _, h⟩ | ⟨_, _, _, h⟩ | ⟨_, _, _, _, _, _, h⟩ | ⟨_, _, _, _, _, _, h⟩ | ⟨_, _, _, _, _, _, h⟩ <;> first | exact h | (exfalso; omega)
            exact bodyPost_ret (v := .agg #[.int .i64 2, .int .i64 5, .int .i64 4]) (by simp [results, Tryz.results110, go_sem, c0, c1, c2]) rfl ⟨ret1 hr.symm, below_set3 (below_next B2.out.drew b5) (Nat.le_of_eq HG.out)⟩
          · have q0' : ¬ (v1 : Int) = 0 := by omega
            by_cases q1 : 16384 < v1
            · have q1' : (16384 : Int) < (v1 : Int) := by omega
              go_wp2_with (first | (go_at_call_of 111 (Value.int .i64 4); refine (H1.out _).mono ?_; rintro e w3 ⟨rfl, rfl⟩) | (go_at_call 120; refine (qoiBadC 3 _ _).mono ?_; rintro e w5 ⟨rfl, b5⟩; have f5 : FB0 w5 g := Blk.below F2d b5 (Blk.lt F2d); have c0 := Blk.cell f5 0; have c1 := Blk.cell f5 1; have c2 := Blk.cell f5 2; have z0 := Blk.frozen f5 0; have z1 := Blk.frozen f5 1; have z2 := Blk.frozen f5 2; have fl := Blk.lt f5))
              have hr : r = .agg #[.int .i64 3, .int .i64 5, .int .i64 4] := by rcases HR.out with ⟨_, h⟩ | ⟨_, h⟩ | ⟨_, _, _, h⟩ | ⟨_, _, _, h⟩ | ⟨_, _, _, _, _, _, h⟩ | ⟨_, _, _, _, _, _, h⟩ | ⟨_, _, _, _, _, _, h⟩ <;> first | exact h | (exfalso; omega)
              exact bodyPost_ret (v := .agg #[.int .i64 3, .int .i64 5, .int .i64 4]) (by simp [results, Tryz.results110, go_sem, c0, c1, c2]) rfl ⟨ret1 hr.symm, below_set3 (below_next B2.out.drew b5) (Nat.le_of_eq HG.out)⟩
            · have q1' : ¬ (16384 : Int) < (v1 : Int) := by omega
              go_wp2_with (first | (go_at_call_of 111 (Value.int .i64 4); refine (H1.out _).mono ?_; rintro e w3 ⟨rfl, rfl⟩))
              go_roundg 1
              case measure => omega
              case rel => exact ⟨.inr (.inl ⟨rfl, rfl, by omega, by omega⟩), F2.out, B2.out.drew⟩
        · clear f2 b2
          by_cases q0 : v2 = 0
          · have q0' : (v2 : Int) = 0 := by omega
            go_wp2_with (first | (go_at_call_of 111 (Value.int .i64 8); refine (H2.out _).mono ?_; rintro e w3 ⟨rfl, rfl⟩) | (go_at_call 120; refine (qoiBadC 2 _ _).mono ?_; rintro e w5 ⟨rfl, b5⟩; have f5 : FB0 w5 g := Blk.below F2d b5 (Blk.lt F2d); have c0 := Blk.cell f5 0; have c1 := Blk.cell f5 1; have c2 := Blk.cell f5 2; have z0 := Blk.frozen f5 0; have z1 := Blk.frozen f5 1; have z2 := Blk.frozen f5 2; have fl := Blk.lt f5))
            have hr : r = .agg #[.int .i64 2, .int .i64 5, .int .i64 8] := by rcases HR.out with ⟨_, h⟩ | ⟨_, h⟩ | ⟨_, _, _, h⟩ | ⟨_, _, _, h⟩ | ⟨_, _, _, _, _, _, h⟩ | ⟨_, _, _, _, _, _, h⟩ | ⟨_, _, _, _, _, _, h⟩ <;> first | exact h | (exfalso; omega)
            exact bodyPost_ret (v := .agg #[.int .i64 2, .int .i64 5, .int .i64 8]) (by simp [results, Tryz.results110, go_sem, c0, c1, c2]) rfl ⟨ret1 hr.symm, below_set3 (below_next B2.out.drew b5) (Nat.le_of_eq HG.out)⟩
          · have q0' : ¬ (v2 : Int) = 0 := by omega
            by_cases q1 : 16384 < v2
            · have q1' : (16384 : Int) < (v2 : Int) := by omega
              go_wp2_with (first | (go_at_call_of 111 (Value.int .i64 8); refine (H2.out _).mono ?_; rintro e w3 ⟨rfl, rfl⟩) | (go_at_call 120; refine (qoiBadC 3 _ _).mono ?_; rintro e w5 ⟨rfl, b5⟩; have f5 : FB0 w5 g := Blk.below F2d b5 (Blk.lt F2d); have c0 := Blk.cell f5 0; have c1 := Blk.cell f5 1; have c2 := Blk.cell f5 2; have z0 := Blk.frozen f5 0; have z1 := Blk.frozen f5 1; have z2 := Blk.frozen f5 2; have fl := Blk.lt f5))
              have hr : r = .agg #[.int .i64 3, .int .i64 5, .int .i64 8] := by rcases HR.out with ⟨_, h⟩ | ⟨_, h⟩ | ⟨_, _, _, h⟩ | ⟨_, _, _, h⟩ | ⟨_, _, _, _, _, _, h⟩ | ⟨_, _, _, _, _, _, h⟩ | ⟨_, _, _, _, _, _, h⟩ <;> first | exact h | (exfalso; omega)
              exact bodyPost_ret (v := .agg #[.int .i64 3, .int .i64 5, .int .i64 8]) (by simp [results, Tryz.results110, go_sem, c0, c1, c2]) rfl ⟨ret1 hr.symm, below_set3 (below_next B2.out.drew b5) (Nat.le_of_eq HG.out)⟩
            · have q1' : ¬ (16384 : Int) < (v2 : Int) := by omega
              go_wp2_with (first | (go_at_call_of 111 (Value.int .i64 8); refine (H2.out _).mono ?_; rintro e w3 ⟨rfl, rfl⟩))
              go_roundg 0
              case measure => omega
              case rel => exact ⟨.inr (.inr ⟨rfl, rfl, p1, p2, by omega, by omega⟩), F2.out, B2.out.drew⟩
        · have c0 := Blk.cell f2 0
          have c1 := Blk.cell f2 1
          have c2 := Blk.cell f2 2
          have z0 := Blk.frozen f2 0
          have z1 := Blk.frozen f2 1
          have z2 := Blk.frozen f2 2
          have fl := Blk.lt f2
          clear f2 b2
          by_cases q0 : v3 = 3
          · have q0' : (b[12].toNat : Int) = 3 := by rw [E3.out]; omega
            by_cases q1 : 1 < v4
            · have q1' : (1 : Int) < (b[13].toNat : Int) := by rw [E4.out]; omega
              clear c0 c1 c2 z0 z1 z2 fl
              go_wp2_with (first | (go_at_call 120; refine (qoiBadC 2 _ _).mono ?_; rintro e w5 ⟨rfl, b5⟩; have f5 : FB0 w5 g := Blk.below F2.out b5 (Blk.lt F2.out); have c0 := Blk.cell f5 0; have c1 := Blk.cell f5 1; have c2 := Blk.cell f5 2; have z0 := Blk.frozen f5 0; have z1 := Blk.frozen f5 1; have z2 := Blk.frozen f5 2; have fl := Blk.lt f5))
              have hr : r = .agg #[.int .i64 2, .int .i64 5, .int .i64 13] := by rcases HR.out with ⟨_, h⟩ | ⟨_, h⟩ | ⟨_, _, _, h⟩ | ⟨_, _, _, h⟩ | ⟨_, _, _, _, _, _, h⟩ | ⟨_, _, _, _, _, _, h⟩ | ⟨_, _, _, _, _, _, h⟩ <;> first | exact h | (exfalso; omega)
              exact bodyPost_ret (v := .agg #[.int .i64 2, .int .i64 5, .int .i64 13]) (by simp [results, Tryz.results110, go_sem, c0, c1, c2]) rfl ⟨ret1 hr.symm, below_set3 (below_next B2.out b5) (Nat.le_of_eq HG.out)⟩
            · have q1' : ¬ (1 : Int) < (b[13].toNat : Int) := by rw [E4.out]; omega
              go_wp2_with fail
              have hr : r = .agg #[.int .i64 0, .int .i64 0, .int .i64 0] := by rcases HR.out with ⟨_, h⟩ | ⟨_, h⟩ | ⟨_, _, _, h⟩ | ⟨_, _, _, h⟩ | ⟨_, _, _, _, _, _, h⟩ | ⟨_, _, _, _, _, _, h⟩ | ⟨_, _, _, _, _, _, h⟩ <;> first | exact h | (exfalso; omega)
              exact bodyPost_ret (v := .agg #[.int .i64 0, .int .i64 0, .int .i64 0]) (by simp [results, Tryz.results110, go_sem, c0, c1, c2]) rfl ⟨ret1 hr.symm, below_set3 B2.out (Nat.le_of_eq HG.out)⟩
          · have q0' : ¬ (b[12].toNat : Int) = 3 := by rw [E3.out]; omega
            by_cases q2 : v3 = 4
            · have q2' : (b[12].toNat : Int) = 4 := by rw [E3.out]; omega
              have q0'' : ¬ (4 : Int) = 3 := by decide
              by_cases q1 : 1 < v4
              · have q1' : (1 : Int) < (b[13].toNat : Int) := by rw [E4.out]; omega
                clear c0 c1 c2 z0 z1 z2 fl
                go_wp2_with (first | (go_at_call 120; refine (qoiBadC 2 _ _).mono ?_; rintro e w5 ⟨rfl, b5⟩; have f5 : FB0 w5 g := Blk.below F2.out b5 (Blk.lt F2.out); have c0 := Blk.cell f5 0; have c1 := Blk.cell f5 1; have c2 := Blk.cell f5 2; have z0 := Blk.frozen f5 0; have z1 := Blk.frozen f5 1; have z2 := Blk.frozen f5 2; have fl := Blk.lt f5))
                have hr : r = .agg #[.int .i64 2, .int .i64 5, .int .i64 13] := by rcases HR.out with ⟨_, h⟩ | ⟨_, h⟩ | ⟨_, _, _, h⟩ | ⟨_, _, _, h⟩ | ⟨_, _, _, _, _, _, h⟩ | ⟨_, _, _, _, _, _, h⟩ | ⟨_, _, _, _, _, _, h⟩ <;> first | exact h | (exfalso; omega)
                exact bodyPost_ret (v := .agg #[.int .i64 2, .int .i64 5, .int .i64 13]) (by simp [results, Tryz.results110, go_sem, c0, c1, c2]) rfl ⟨ret1 hr.symm, below_set3 (below_next B2.out b5) (Nat.le_of_eq HG.out)⟩
              · have q1' : ¬ (1 : Int) < (b[13].toNat : Int) := by rw [E4.out]; omega
                go_wp2_with fail
                have hr : r = .agg #[.int .i64 0, .int .i64 0, .int .i64 0] := by rcases HR.out with ⟨_, h⟩ | ⟨_, h⟩ | ⟨_, _, _, h⟩ | ⟨_, _, _, h⟩ | ⟨_, _, _, _, _, _, h⟩ | ⟨_, _, _, _, _, _, h⟩ | ⟨_, _, _, _, _, _, h⟩ <;> first | exact h | (exfalso; omega)
                exact bodyPost_ret (v := .agg #[.int .i64 0, .int .i64 0, .int .i64 0]) (by simp [results, Tryz.results110, go_sem, c0, c1, c2]) rfl ⟨ret1 hr.symm, below_set3 B2.out (Nat.le_of_eq HG.out)⟩
            · have q2' : ¬ (b[12].toNat : Int) = 4 := by rw [E3.out]; omega
              have qb0 := bne_iff_ne.2 q0'
              have qb2 := bne_iff_ne.2 q2'
              clear c0 c1 c2 z0 z1 z2 fl
              go_wp2_with (first | (go_at_call 120; refine (qoiBadC 2 _ _).mono ?_; rintro e w5 ⟨rfl, b5⟩; have f5 : FB0 w5 g := Blk.below F2.out b5 (Blk.lt F2.out); have c0 := Blk.cell f5 0; have c1 := Blk.cell f5 1; have c2 := Blk.cell f5 2; have z0 := Blk.frozen f5 0; have z1 := Blk.frozen f5 1; have z2 := Blk.frozen f5 2; have fl := Blk.lt f5))
              have hr : r = .agg #[.int .i64 2, .int .i64 5, .int .i64 12] := by rcases HR.out with ⟨_, h⟩ | ⟨_, h⟩ | ⟨_, _, _, h⟩ | ⟨_, _, _, h⟩ | ⟨_, _, _, _, _, _, h⟩ | ⟨_, _, _, _, _, _, h⟩ | ⟨_, _, _, _, _, _, h⟩ <;> first | exact h | (exfalso; omega)
              exact bodyPost_ret (v := .agg #[.int .i64 2, .int .i64 5, .int .i64 12]) (by simp [results, Tryz.results110, go_sem, c0, c1, c2]) rfl ⟨ret1 hr.symm, below_set3 (below_next B2.out b5) (Nat.le_of_eq HG.out)⟩

/-- what a head's fault is told as -/
def qoiTold (o : Option (Nat × Nat)) : Value := match o with | none => .agg #[.int .i64 0, .int .i64 0, .int .i64 0] | some f => .agg #[.int .i64 (f.1 : Int), .int .i64 5, .int .i64 (f.2 : Int)]
theorem qoiCheckC {b : ByteArray} (hb : b.size = 14) (w : World) :
    Calls Tryz.prog 110 #[.string b, .int .i64 0] w fun e w' => e = .returned (qoiTold (qoiHead b)) ∧ Below w.heap.size w w' := by
  have hk := qoiHead_is b
  generalize qoiHead b = o at hk ⊢
  cases hk with
  | word i hi o => exact qoiCheck_word hb hi o w
  | w0 o h' => exact qoiCheck_side hb o h' rfl rfl rfl (.inl ⟨rfl, rfl⟩) w
  | w1 o h' => exact qoiCheck_side hb o rfl rfl rfl rfl (.inr (.inl ⟨h', rfl⟩)) w
  | h0 o h1 h2 h' => exact qoiCheck_side hb o rfl h' rfl rfl (.inr (.inr (.inl ⟨h1, h2, rfl, rfl⟩))) w
  | h1 o h1 h2 h' => exact qoiCheck_side hb o rfl rfl rfl rfl (.inr (.inr (.inr (.inl ⟨h1, h2, h', rfl⟩)))) w
  | c0 o h1 h2 h3 h4 h' => exact qoiCheck_side hb o rfl rfl rfl rfl (.inr (.inr (.inr (.inr (.inl ⟨h1, h2, h3, h4, h', trivial, rfl⟩))))) w
  | c1 o h1 h2 h3 h4 h5 h' => exact qoiCheck_side hb o rfl rfl rfl rfl (.inr (.inr (.inr (.inr (.inr (.inl ⟨h1, h2, h3, h4, h5, h', rfl⟩)))))) w
  | ok o h1 h2 h3 h4 h5 h6 => exact qoiCheck_side hb o rfl rfl rfl rfl (.inr (.inr (.inr (.inr (.inr (.inr ⟨h1, h2, h3, h4, h5, h6, rfl⟩)))))) w
theorem qoiHead_cut (s : ByteArray) : qoiHead (s.extract 0 (0 + 14)) = qoiHead s := by
  have h : ∀ k, k < 14 → bat (s.extract 0 (0 + 14)) k = bat s k := fun k hk => by rw [bat_extract s 0 14 k hk, Nat.zero_add]
  unfold qoiHead
  rw [offFrom_ext h 4 0 (by omega), beN_ext h 4 4 (by omega), beN_ext h 8 4 (by omega), h 12 (by omega), h 13 (by omega)]
theorem qoiHigh_head {s : ByteArray} {a v : Nat} (hs : 14 ≤ s.size) (ha : a + 4 ≤ 14) (hv : beN s a 4 = v) (w : World) : Calls Tryz.prog 111 #[.string (s.extract 0 (0 + 14)), .int .i64 (a : Int)] w fun e w' => e = .returned (.int .i64 (v : Int)) ∧ w' = w.drew := by
  have h : ∀ k, k < 14 → bat (s.extract 0 (0 + 14)) k = bat s k := fun k hk => by rw [bat_extract s 0 14 k hk, Nat.zero_add]
  have e1 : beN (s.extract 0 (0 + 14)) a 4 = v := (beN_ext h a 4 ha).trans hv
  have e2 := extract_size s 0 14 (by omega)
  exact qoiHigh_at (by omega) (by omega) e1 w
end Go.Proofs.YtojobfnbakiicaaGreat
