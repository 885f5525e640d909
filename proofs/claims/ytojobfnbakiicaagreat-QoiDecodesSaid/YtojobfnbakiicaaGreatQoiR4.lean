/- The document's qoi: what is wrong with a head; Sides. The document's qoi: words for Decode. -/
import Derived.Test.YtojobfnbakiicaaGreatQoiK
import Derived.Test.YtojobfnbakiicaaGreatFfRef
import Derived.Test.YtojobfnbakiicaaGreatQoiY
import Derived.Test.YtojobfnbakiicaaGreatFfRef3
namespace Go.Proofs.YtojobfnbakiicaaGreat
open Go.RowKit
set_option linter.unusedVariables false
set_option linter.unusedSimpArgs false

set_option maxRecDepth 100000 in
set_option maxHeartbeats 1000000 in
theorem refQoiCheck_word {b : ByteArray} {i : Nat} (hb : 14 ≤ b.size) (hsm : b.size ≤ 1099511627776) (hi : i < 4) (o : Off b qoiW 0 4 i) (w : World) :
    Calls Tryz.prog 64 #[.string b] w fun e w' => e = .returned (.agg #[.int .i64 0, .int .i64 0, .slice none 0 0, .int .i64 2, .int .i64 (i : Int)]) ∧ Below w.heap.size w w' := by
  go_enter Tryz.func64, Tryz.ntmps64
  go_wp2_with fail
  obtain ⟨F0, B0⟩ := ri_new w
  generalize w.alloc (.cells #[.int .i64 0, .int .i64 0, .slice none 0 0, .int .i64 0, .int .i64 0] 41) = ws at F0 B0 ⊢
  generalize hg : w.heap.size = g at F0 ⊢
  have HG := Lib.hid hg
  clear hg
  have H0 := Lib.hid F0
  have H9 := Lib.hid B0
  clear F0 B0
  go_loopg [4] 4 (fun m k wr => ∃ j : Nat, j + m = 4 ∧ j ≤ i ∧ k = .int .i64 (j : Int) ∧ RI wr g 0 0 (.slice none 0 0) 0 0 ∧ Below w.heap.size w wr)
  case atStart => exact ⟨0, by omega, by omega, rfl, H0.out, H9.out⟩
  case round =>
    obtain ⟨j, hj, hji, rfl, f1, b1⟩ := hrel
    have F2 := Lib.hid f1
    have B2 := Lib.hid b1
    have hlt : (j : Int) < 4 := by omega
    have hjs : (j : Int) < (b.size : Int) := by omega
    have hjs' : j < b.size := by omega
    have hlit := qoiWb_at (j := j) (by omega)
    have hbat := bat_eq hjs'
    obtain ⟨c, hc⟩ : ∃ c, qoiW.getD j 0 = c := ⟨_, rfl⟩
    rw [hc] at hlit
    by_cases he : j = i
    · subst he
      have hne : ((b[j].toNat : Nat) : Int) ≠ (c : Int) := by
        have := o.stop (by omega)
        rw [hbat, hc] at this
        omega
      clear hb hbat f1 b1
      go_wp2_with fail
      go_region
      go_wp2_with (go_at_call 63; refine (refBadC 2 _ _).mono ?_; rintro e w5 ⟨rfl, b5⟩; have f5 : RI w5 g 0 0 (.slice none 0 0) 0 0 := Blk.below F2.out.drew b5 (Blk.lt F2.out); obtain ⟨c0, c1, c2, c3, c4, z0, z1, z2, z3, z4, fl⟩ := RI.all f5)
      exact bodyPost_ret (v := .agg #[.int .i64 0, .int .i64 0, .slice none 0 0, .int .i64 2, .int .i64 (j : Int)]) (by simp [results, Tryz.results64, go_sem, c0, c1, c2, c3, c4]) rfl ⟨rfl, Below.st5 (below_next B2.out.drew b5) (Nat.le_of_eq HG.out)⟩
    · have heq : ((b[j].toNat : Nat) : Int) = (c : Int) := by
        have := o.same j (by omega) (by omega)
        rw [hbat, hc] at this
        omega
      clear hb hbat f1 b1
      go_wp2_with fail
      go_region
      go_wp2_with fail
      go_roundg (4 - (j + 1))
      case measure => omega
      case rel => exact ⟨j + 1, by omega, by omega, by go_num, F2.out.drew, B2.out.drew⟩
set_option maxRecDepth 100000 in
set_option maxHeartbeats 2000000 in
theorem refQoiCheck_side {b : ByteArray} {v1 v2 v3 v4 : Nat} {r : Value} (hb : 14 ≤ b.size) (hsm : b.size ≤ 1099511627776) (o : Off b qoiW 0 4 4) (e1 : beN b 4 4 = v1) (e2 : beN b 8 4 = v2) (e3 : bat b 12 = v3) (e4 : bat b 13 = v4)
    (hr : (v1 = 0 ∧ r = .agg #[.int .i64 0, .int .i64 0, .slice none 0 0, .int .i64 2, .int .i64 4]) ∨ (16384 < v1 ∧ r = .agg #[.int .i64 0, .int .i64 0, .slice none 0 0, .int .i64 3, .int .i64 4]) ∨ (1 ≤ v1 ∧ v1 ≤ 16384 ∧ v2 = 0 ∧ r = .agg #[.int .i64 0, .int .i64 0, .slice none 0 0, .int .i64 2, .int .i64 8]) ∨ (1 ≤ v1 ∧ v1 ≤ 16384 ∧ 16384 < v2 ∧ r = .agg #[.int .i64 0, .int .i64 0, .slice none 0 0, .int .i64 3, .int .i64 8]) ∨ (1 ≤ v1 ∧ v1 ≤ 16384 ∧ 1 ≤ v2 ∧ v2 ≤ 16384 ∧ (v3 ≠ 3 ∧ v3 ≠ 4) ∧ True ∧ r = .agg #[.int .i64 0, .int .i64 0, .slice none 0 0, .int .i64 2, .int .i64 12]) ∨ (1 ≤ v1 ∧ v1 ≤ 16384 ∧ 1 ≤ v2 ∧ v2 ≤ 16384 ∧ (v3 = 3 ∨ v3 = 4) ∧ 1 < v4 ∧ r = .agg #[.int .i64 0, .int .i64 0, .slice none 0 0, .int .i64 2, .int .i64 13]) ∨ (1 ≤ v1 ∧ v1 ≤ 16384 ∧ 1 ≤ v2 ∧ v2 ≤ 16384 ∧ (v3 = 3 ∨ v3 = 4) ∧ v4 ≤ 1 ∧ r = .agg #[.int .i64 0, .int .i64 0, .slice none 0 0, .int .i64 0, .int .i64 0])) (w : World) :
    Calls Tryz.prog 64 #[.string b] w fun e w' => e = .returned r ∧ Below w.heap.size w w' := by
  have H1 := Lib.hid (fun w => refBe_at (s := b) (a := 4) (n := 4) (v := v1) (by omega) (by omega) e1 w)
  have H2 := Lib.hid (fun w => refBe_at (s := b) (a := 8) (n := 4) (v := v2) (by omega) (by omega) e2 w)
  have hbs : (14 : Int) ≤ (b.size : Int) := by omega
  have b0 : (4 : Int) ≤ (b.size : Int) := by omega
  have b1 : (8 : Int) ≤ (b.size : Int) := by omega
  have HR := Lib.hid hr
  have O := Lib.hid o
  have n12 : 12 < b.size := by omega
  have n13 : 13 < b.size := by omega
  rw [bat_eq n12] at e3
  rw [bat_eq n13] at e4
  have E3 := Lib.hid e3
  have E4 := Lib.hid e4
  have i12 : (12 : Int) < (b.size : Int) := by omega
  have i13 : (13 : Int) < (b.size : Int) := by omega
  clear e1 e2 e3 e4 hr o
  go_enter Tryz.func64, Tryz.ntmps64
  go_wp2_with fail
  obtain ⟨F0, B0⟩ := ri_new w
  generalize w.alloc (.cells #[.int .i64 0, .int .i64 0, .slice none 0 0, .int .i64 0, .int .i64 0] 41) = ws at F0 B0 ⊢
  generalize hg : w.heap.size = g at F0 ⊢
  have HG := Lib.hid hg
  clear hg
  have H0 := Lib.hid F0
  have H9 := Lib.hid B0
  clear F0 B0
  go_loopg [4] 4 (fun m k wr => ∃ j : Nat, j + m = 4 ∧ k = .int .i64 (j : Int) ∧ RI wr g 0 0 (.slice none 0 0) 0 0 ∧ Below w.heap.size w wr)
  case atStart => exact ⟨0, by omega, rfl, H0.out, H9.out⟩
  case round =>
    obtain ⟨j, hj, rfl, f1, b1'⟩ := hrel
    have F1 := Lib.hid f1
    have B1 := Lib.hid b1'
    by_cases hlt' : j < 4
    · have hlt : (j : Int) < 4 := by omega
      have hjs : (j : Int) < (b.size : Int) := by omega
      have hjs' : j < b.size := by omega
      have hlit := qoiWb_at (j := j) (by omega)
      have hbat := bat_eq hjs'
      obtain ⟨c, hc⟩ : ∃ c, qoiW.getD j 0 = c := ⟨_, rfl⟩
      rw [hc] at hlit
      have heq : ((b[j].toNat : Nat) : Int) = (c : Int) := by
        have := O.out.same j (by omega) (by omega)
        rw [hbat, hc] at this
        omega
      clear hbat f1 b1' hbs b0 b1
      go_wp2_with fail
      go_region
      go_wp2_with fail
      go_roundg (4 - (j + 1))
      case measure => omega
      case rel => exact ⟨j + 1, by omega, by go_num, F1.out.drew, B1.out.drew⟩
    · obtain rfl : j = 4 := by omega
      clear f1 b1'
      go_wp2_with fail
      go_loopg [5] 2 (fun k at' wr => ((k = 2 ∧ at' = .int .i64 4) ∨ (k = 1 ∧ at' = .int .i64 8 ∧ 1 ≤ v1 ∧ v1 ≤ 16384) ∨ (k = 0 ∧ at' = .int .i64 12 ∧ 1 ≤ v1 ∧ v1 ≤ 16384 ∧ 1 ≤ v2 ∧ v2 ≤ 16384)) ∧ RI wr g 0 0 (.slice none 0 0) 0 0 ∧ Below w.heap.size w wr)
      case atStart => exact ⟨.inl ⟨rfl, rfl⟩, F1.out, B1.out⟩
      case round =>
        obtain ⟨hk, f2, b2⟩ := hrel
        have F2 := Lib.hid f2
        have B2 := Lib.hid b2
        rcases hk with ⟨rfl, rfl⟩ | ⟨rfl, rfl, p1, p2⟩ | ⟨rfl, rfl, p1, p2, p3, p4⟩
        · clear f2 b2
          by_cases q0 : v1 = 0
          · have q0' : (v1 : Int) = 0 := by omega
            go_wp2_with (first | (go_at_call 65; refine (H1.out _).mono ?_; rintro e w3 ⟨rfl, rfl⟩) | (go_at_call 63; refine (refBadC 2 _ _).mono ?_; rintro e w5 ⟨rfl, b5⟩; have f5 : RI w5 g 0 0 (.slice none 0 0) 0 0 := Blk.below F2.out b5 (Blk.lt F2.out); obtain ⟨c0, c1, c2, c3, c4, z0, z1, z2, z3, z4, fl⟩ := RI.all f5))
            have hr : r = .agg #[.int .i64 0, .int .i64 0, .slice none 0 0, .int .i64 2, .int .i64 4] := by rcases HR.out with ⟨_, h⟩ | ⟨_, h⟩ | ⟨_, _, _, h⟩ | ⟨_, _, _, h⟩ | ⟨_, _, _, _, _, _, h⟩ | ⟨_, _, _, _, _, _, h⟩ | ⟨_, _, _, _, _, _, h⟩ <;> first | exact h | (exfalso; omega)
            exact bodyPost_ret (v := .agg #[.int .i64 0, .int .i64 0, .slice none 0 0, .int .i64 2, .int .i64 4]) (by simp [results, Tryz.results64, go_sem, c0, c1, c2, c3, c4]) rfl ⟨ret1 hr.symm, Below.st5 (below_next B2.out b5) (Nat.le_of_eq HG.out)⟩

          · have q0' : ¬ (v1 : Int) = 0 := by omega
            by_cases q1 : 16384 < v1
            · have q1' : (16384 : Int) < (v1 : Int) := by omega
              go_wp2_with (first | (go_at_call 65; refine (H1.out _).mono ?_; rintro e w3 ⟨rfl, rfl⟩) | (go_at_call 63; refine (refBadC 3 _ _).mono ?_; rintro e w5 ⟨rfl, b5⟩; have f5 : RI w5 g 0 0 (.slice none 0 0) 0 0 := Blk.below F2.out b5 (Blk.lt F2.out); obtain ⟨c0, c1, c2, c3, c4, z0, z1, z2, z3, z4, fl⟩ := RI.all f5))
              have hr : r = .agg #[.int .i64 0, .int .i64 0, .slice none 0 0, .int .i64 3, .int .i64 4] := by rcases HR.out with ⟨_, h⟩ | ⟨_, h⟩ | ⟨_, _, _, h⟩ | ⟨_, _, _, h⟩ | ⟨_, _, _, _, _, _, h⟩ | ⟨_, _, _, _, _, _, h⟩ | ⟨_, _, _, _, _, _, h⟩ <;> first | exact h | (exfalso; omega)
              exact bodyPost_ret (v := .agg #[.int .i64 0, .int .i64 0, .slice none 0 0, .int .i64 3, .int .i64 4]) (by simp [results, Tryz.results64, go_sem, c0, c1, c2, c3, c4]) rfl ⟨ret1 hr.symm, Below.st5 (below_next B2.out b5) (Nat.le_of_eq HG.out)⟩

            · have q1' : ¬ (16384 : Int) < (v1 : Int) := by omega
              go_wp2_with (first | (go_at_call 65; refine (H1.out _).mono ?_; rintro e w3 ⟨rfl, rfl⟩))
              go_roundg 1
              case measure => omega
              case rel => exact ⟨.inr (.inl ⟨rfl, rfl, by omega, by omega⟩), F2.out, B2.out⟩
        · clear f2 b2
          by_cases q0 : v2 = 0
          · have q0' : (v2 : Int) = 0 := by omega
            go_wp2_with (first | (go_at_call 65; refine (H2.out _).mono ?_; rintro e w3 ⟨rfl, rfl⟩) | (go_at_call 63; refine (refBadC 2 _ _).mono ?_; rintro e w5 ⟨rfl, b5⟩; have f5 : RI w5 g 0 0 (.slice none 0 0) 0 0 := Blk.below F2.out b5 (Blk.lt F2.out); obtain ⟨c0, c1, c2, c3, c4, z0, z1, z2, z3, z4, fl⟩ := RI.all f5))
            have hr : r = .agg #[.int .i64 0, .int .i64 0, .slice none 0 0, .int .i64 2, .int .i64 8] := by rcases HR.out with ⟨_, h⟩ | ⟨_, h⟩ | ⟨_, _, _, h⟩ | ⟨_, _, _, h⟩ | ⟨_, _, _, _, _, _, h⟩ | ⟨_, _, _, _, _, _, h⟩ | ⟨_, _, _, _, _, _, h⟩ <;> first | exact h | (exfalso; omega)
            exact bodyPost_ret (v := .agg #[.int .i64 0, .int .i64 0, .slice none 0 0, .int .i64 2, .int .i64 8]) (by simp [results, Tryz.results64, go_sem, c0, c1, c2, c3, c4]) rfl ⟨ret1 hr.symm, Below.st5 (below_next B2.out b5) (Nat.le_of_eq HG.out)⟩

          · have q0' : ¬ (v2 : Int) = 0 := by omega
            by_cases q1 : 16384 < v2
            · have q1' : (16384 : Int) < (v2 : Int) := by omega
              go_wp2_with (first | (go_at_call 65; refine (H2.out _).mono ?_; rintro e w3 ⟨rfl, rfl⟩) | (go_at_call 63; refine (refBadC 3 _ _).mono ?_; rintro e w5 ⟨rfl, b5⟩; have f5 : RI w5 g 0 0 (.slice none 0 0) 0 0 := Blk.below F2.out b5 (Blk.lt F2.out); obtain ⟨c0, c1, c2, c3, c4, z0, z1, z2, z3, z4, fl⟩ := RI.all f5))
              have hr : r = .agg #[.int .i64 0, .int .i64 0, .slice none 0 0, .int .i64 3, .int .i64 8] := by rcases HR.out with ⟨_, h⟩ | ⟨_, h⟩ | ⟨_, _, _, h⟩ | ⟨_, _, _, h⟩ | ⟨_, _, _, _, _, _, h⟩ | ⟨_, _, _, _, _, _, h⟩ | ⟨_, _, _, _, _, _, h⟩ <;> first | exact h | (exfalso; omega)
              exact bodyPost_ret (v := .agg #[.int .i64 0, .int .i64 0, .slice none 0 0, .int .i64 3, .int .i64 8]) (by simp [results, Tryz.results64, go_sem, c0, c1, c2, c3, c4]) rfl ⟨ret1 hr.symm, Below.st5 (below_next B2.out b5) (Nat.le_of_eq HG.out)⟩

            · have q1' : ¬ (16384 : Int) < (v2 : Int) := by omega
              go_wp2_with (first | (go_at_call 65; refine (H2.out _).mono ?_; rintro e w3 ⟨rfl, rfl⟩))
              go_roundg 0
              case measure => omega
              case rel => exact ⟨.inr (.inr ⟨rfl, rfl, p1, p2, by omega, by omega⟩), F2.out, B2.out⟩
        · have F2d := F2.out
          clear f2 b2
          by_cases q0 : v3 = 3
          · have q0' : (b[12].toNat : Int) = 3 := by rw [E3.out]; omega
            by_cases q1 : 1 < v4
            · have q1' : (1 : Int) < (b[13].toNat : Int) := by rw [E4.out]; omega
              go_wp2_with (first | (go_at_call 63; refine (refBadC 2 _ _).mono ?_; rintro e w5 ⟨rfl, b5⟩; have f5 : RI w5 g 0 0 (.slice none 0 0) 0 0 := Blk.below F2d b5 (Blk.lt F2d); obtain ⟨c0, c1, c2, c3, c4, z0, z1, z2, z3, z4, fl⟩ := RI.all f5))
              have hr : r = .agg #[.int .i64 0, .int .i64 0, .slice none 0 0, .int .i64 2, .int .i64 13] := by rcases HR.out with ⟨_, h⟩ | ⟨_, h⟩ | ⟨_, _, _, h⟩ | ⟨_, _, _, h⟩ | ⟨_, _, _, _, _, _, h⟩ | ⟨_, _, _, _, _, _, h⟩ | ⟨_, _, _, _, _, _, h⟩ <;> first | exact h | (exfalso; omega)
              exact bodyPost_ret (v := .agg #[.int .i64 0, .int .i64 0, .slice none 0 0, .int .i64 2, .int .i64 13]) (by simp [results, Tryz.results64, go_sem, c0, c1, c2, c3, c4]) rfl ⟨ret1 hr.symm, Below.st5 (below_next B2.out b5) (Nat.le_of_eq HG.out)⟩
            · have q1' : ¬ (1 : Int) < (b[13].toNat : Int) := by rw [E4.out]; omega
              obtain ⟨c0, c1, c2, c3, c4, z0, z1, z2, z3, z4, fl⟩ := RI.all F2d
              go_wp2_with fail
              have hr : r = .agg #[.int .i64 0, .int .i64 0, .slice none 0 0, .int .i64 0, .int .i64 0] := by rcases HR.out with ⟨_, h⟩ | ⟨_, h⟩ | ⟨_, _, _, h⟩ | ⟨_, _, _, h⟩ | ⟨_, _, _, _, _, _, h⟩ | ⟨_, _, _, _, _, _, h⟩ | ⟨_, _, _, _, _, _, h⟩ <;> first | exact h | (exfalso; omega)
              exact bodyPost_ret (v := .agg #[.int .i64 0, .int .i64 0, .slice none 0 0, .int .i64 0, .int .i64 0]) (by simp [results, Tryz.results64, go_sem, c0, c1, c2, c3, c4]) rfl ⟨ret1 hr.symm, Below.st5 B2.out (Nat.le_of_eq HG.out)⟩
          · have q0' : ¬ (b[12].toNat : Int) = 3 := by rw [E3.out]; omega
            by_cases q2 : v3 = 4
            · have q2' : (b[12].toNat : Int) = 4 := by rw [E3.out]; omega
              by_cases q1 : 1 < v4
              · have q1' : (1 : Int) < (b[13].toNat : Int) := by rw [E4.out]; omega
                go_wp2_with (first | (go_at_call 63; refine (refBadC 2 _ _).mono ?_; rintro e w5 ⟨rfl, b5⟩; have f5 : RI w5 g 0 0 (.slice none 0 0) 0 0 := Blk.below F2d b5 (Blk.lt F2d); obtain ⟨c0, c1, c2, c3, c4, z0, z1, z2, z3, z4, fl⟩ := RI.all f5))
                have hr : r = .agg #[.int .i64 0, .int .i64 0, .slice none 0 0, .int .i64 2, .int .i64 13] := by rcases HR.out with ⟨_, h⟩ | ⟨_, h⟩ | ⟨_, _, _, h⟩ | ⟨_, _, _, h⟩ | ⟨_, _, _, _, _, _, h⟩ | ⟨_, _, _, _, _, _, h⟩ | ⟨_, _, _, _, _, _, h⟩ <;> first | exact h | (exfalso; omega)
                exact bodyPost_ret (v := .agg #[.int .i64 0, .int .i64 0, .slice none 0 0, .int .i64 2, .int .i64 13]) (by simp [results, Tryz.results64, go_sem, c0, c1, c2, c3, c4]) rfl ⟨ret1 hr.symm, Below.st5 (below_next B2.out b5) (Nat.le_of_eq HG.out)⟩
              · have q1' : ¬ (1 : Int) < (b[13].toNat : Int) := by rw [E4.out]; omega
                obtain ⟨c0, c1, c2, c3, c4, z0, z1, z2, z3, z4, fl⟩ := RI.all F2d
                go_wp2_with fail
                have hr : r = .agg #[.int .i64 0, .int .i64 0, .slice none 0 0, .int .i64 0, .int .i64 0] := by rcases HR.out with ⟨_, h⟩ | ⟨_, h⟩ | ⟨_, _, _, h⟩ | ⟨_, _, _, h⟩ | ⟨_, _, _, _, _, _, h⟩ | ⟨_, _, _, _, _, _, h⟩ | ⟨_, _, _, _, _, _, h⟩ <;> first | exact h | (exfalso; omega)
                exact bodyPost_ret (v := .agg #[.int .i64 0, .int .i64 0, .slice none 0 0, .int .i64 0, .int .i64 0]) (by simp [results, Tryz.results64, go_sem, c0, c1, c2, c3, c4]) rfl ⟨ret1 hr.symm, Below.st5 B2.out (Nat.le_of_eq HG.out)⟩
            · have q2' : ¬ (b[12].toNat : Int) = 4 := by rw [E3.out]; omega
              have qb0 := bne_iff_ne.2 q0'
              have qb2 := bne_iff_ne.2 q2'
              go_wp2_with (first | (go_at_call 63; refine (refBadC 2 _ _).mono ?_; rintro e w5 ⟨rfl, b5⟩; have f5 : RI w5 g 0 0 (.slice none 0 0) 0 0 := Blk.below F2d b5 (Blk.lt F2d); obtain ⟨c0, c1, c2, c3, c4, z0, z1, z2, z3, z4, fl⟩ := RI.all f5))
              have hr : r = .agg #[.int .i64 0, .int .i64 0, .slice none 0 0, .int .i64 2, .int .i64 12] := by rcases HR.out with ⟨_, h⟩ | ⟨_, h⟩ | ⟨_, _, _, h⟩ | ⟨_, _, _, h⟩ | ⟨_, _, _, _, _, _, h⟩ | ⟨_, _, _, _, _, _, h⟩ | ⟨_, _, _, _, _, _, h⟩ <;> first | exact h | (exfalso; omega)
              exact bodyPost_ret (v := .agg #[.int .i64 0, .int .i64 0, .slice none 0 0, .int .i64 2, .int .i64 12]) (by simp [results, Tryz.results64, go_sem, c0, c1, c2, c3, c4]) rfl ⟨ret1 hr.symm, Below.st5 (below_next B2.out b5) (Nat.le_of_eq HG.out)⟩

theorem refQoiCheckC {b : ByteArray} (hb : 14 ≤ b.size) (hsm : b.size ≤ 1099511627776) (w : World) :
    Calls Tryz.prog 64 #[.string b] w fun e w' => e = .returned (riTold (qoiHead b)) ∧ Below w.heap.size w w' := by
  have hk := qoiHead_is b
  generalize qoiHead b = o at hk ⊢
  cases hk with
  | word i hi o => exact refQoiCheck_word hb hsm hi o w
  | w0 o h' => exact refQoiCheck_side hb hsm o h' rfl rfl rfl (.inl ⟨rfl, rfl⟩) w
  | w1 o h' => exact refQoiCheck_side hb hsm o rfl rfl rfl rfl (.inr (.inl ⟨h', rfl⟩)) w
  | h0 o h1 h2 h' => exact refQoiCheck_side hb hsm o rfl h' rfl rfl (.inr (.inr (.inl ⟨h1, h2, rfl, rfl⟩))) w
  | h1 o h1 h2 h' => exact refQoiCheck_side hb hsm o rfl rfl rfl rfl (.inr (.inr (.inr (.inl ⟨h1, h2, h', rfl⟩)))) w
  | c0 o h1 h2 h3 h4 h' => exact refQoiCheck_side hb hsm o rfl rfl rfl rfl (.inr (.inr (.inr (.inr (.inl ⟨h1, h2, h3, h4, h', trivial, rfl⟩))))) w
  | c1 o h1 h2 h3 h4 h5 h' => exact refQoiCheck_side hb hsm o rfl rfl rfl rfl (.inr (.inr (.inr (.inr (.inr (.inl ⟨h1, h2, h3, h4, h5, h', rfl⟩)))))) w
  | ok o h1 h2 h3 h4 h5 h6 => exact refQoiCheck_side hb hsm o rfl rfl rfl rfl (.inr (.inr (.inr (.inr (.inr (.inr ⟨h1, h2, h3, h4, h5, h6, rfl⟩)))))) w
theorem qoiHead_ne {s : ByteArray} {f : Nat × Nat} (h : qoiHead s = some f) : f.1 ≠ 0 ∧ f.1 ≠ 4 := by
  have hk := qoiHead_is s
  rw [h] at hk
  cases hk <;> simp
theorem qoiHead_sides {s : ByteArray} (h : qoiHead s = none) : 1 ≤ beN s 4 4 ∧ beN s 4 4 ≤ 16384 ∧ 1 ≤ beN s 8 4 ∧ beN s 8 4 ≤ 16384 := by
  have hk := qoiHead_is s
  rw [h] at hk
  cases hk with
  | ok o a b c d => exact ⟨a, b, c, d⟩
set_option maxRecDepth 100000 in
set_option maxHeartbeats 1000000 in
theorem refQoiSides {s : ByteArray} (hsm : s.size ≤ 1099511627776) (w : World) :
    Calls Tryz.prog 21 #[.string s] w fun e w' => e = .returned (.tuple #[.int .i64 ((qoiSides s).1 : Int), .int .i64 ((qoiSides s).2 : Int)]) ∧ Below w.heap.size w w' := by
  unfold qoiSides
  by_cases hs : s.size < 14
  · rw [if_pos hs]
    have hsI : (s.size : Int) < 14 := by omega
    go_enter Tryz.func21, Tryz.ntmps21
    go_wp2_with fail
    go_ret2
    exact ⟨rfl, Below.refl _ _⟩
  · rw [if_neg hs]
    have hsI : ¬ (s.size : Int) < 14 := by omega
    have hsI2 : (14 : Int) ≤ (s.size : Int) := by omega
    have hsI3 : (12 : Int) ≤ (s.size : Int) := by omega
    have HC := Lib.hid (fun w => refQoiCheckC (b := s) (by omega) hsm w)
    have HB := Lib.hid (fun a (ha : a + 4 ≤ 14) w => refBe_at (s := s) (a := a) (n := 4) (by omega) (by omega) rfl w)
    cases hh : qoiHead s with
    | some f =>
      have hf := (qoiHead_ne hh).1
      have hfI : ¬ (f.1 : Int) = 0 := by omega
      rw [hh] at HC
      simp only [riTold] at HC
      have fx := riFld3 (.int .i64 0) (.int .i64 0) (.slice none 0 0) (.int .i64 (f.1 : Int)) (.int .i64 (f.2 : Int))
      clear hh hs hf hsm
      go_enter Tryz.func21, Tryz.ntmps21
      go_wp2_with (go_at_call 64; refine (HC.out _).mono ?_; rintro e w1 ⟨rfl, b1⟩)
      go_ret2
      exact ⟨rfl, b1⟩
    | none =>
      rw [hh] at HC
      simp only [riTold] at HC
      have fx := riFld3 (.int .i64 0) (.int .i64 0) (.slice none 0 0) (.int .i64 0) (.int .i64 0)
      clear hh hs hsm
      go_enter Tryz.func21, Tryz.ntmps21
      go_wp2_with (go_at_call 64; refine (HC.out _).mono ?_; rintro e w1 ⟨rfl, b1⟩)
      go_region_with (go_at_call 65; refine (HB.out _ (by decide) _).mono ?_; rintro e w2 ⟨rfl, rfl⟩)
      all_goals go_wp2_with fail
      all_goals go_ret2
      all_goals exact ⟨rfl, b1.drew⟩
end Go.Proofs.YtojobfnbakiicaaGreat
namespace Go.Proofs.YtojobfnbakiicaaGreat
open Go.RowKit
set_option linter.unusedVariables false
set_option linter.unusedSimpArgs false

/-- append of a colour to colours; a colour's box beside stays, and stays beside -/
theorem wpList_append_colB {ops : Array Oper} {rest : List Oper} {o : Oper} {a : Act} {Q : Exit → Act → World → Prop} {w : World} (hgd : o.guard = none) (s x : Operand)
    (ho : o.op = .call { callee := .builtin .append, args := #[s, x], argTypes := #[39, 39] })
    (base : Nat) (v : Value) (L : List Qc) (hs : a.eval s = v) (hown : OwnsQ w base v L) (hnil : L = [] → v = .slice none 0 0)
    (g c : Nat) (q : Qc) (hx : a.eval x = .slice (some ⟨g, 0, none⟩) 1 c) (hM : QAt w g 0 [q])
    (hlen : L.length + 1 < 1099511627776) (hbase : base ≤ w.heap.size)
    (cb : Nat) (cq' : Qc) (hcb : QB w cb cq') (hne : ∀ k, v.ownBlock = some k → k ≠ cb)
    (h : ∀ v' w', OwnsQ w' base v' (L ++ [q]) → Below base w w' → w.grownBy w' v.ownBlock → QB w' cb cq' → (∀ k, v'.ownBlock = some k → k ≠ cb) → wpList Tryz.prog ops Q rest (a.put o.dst v') w') : wpList Tryz.prog ops Q (o :: rest) a w := by
  by_cases hL : L = []
  · subst hL
    have hv := hnil rfl
    subst hv
    refine wpList_append_cols hgd s x ho w.heap.size (.slice none 0 0) [] hs (World.ownsRow_nil _ _ _ _) g 1 c [q] rfl hx hM (by simp) (Nat.le_refl _) ?_
    intro v' w' own b hg
    have Q' : QB w' cb cq' := (hg.block cb (Blk.lt hcb) (by simp [Value.ownBlock])).trans hcb
    refine h v' w' (World.ownsRow.mono own hbase) (b.mono hbase) hg Q' (fun k hk => ?_)
    have := (World.ownsRow.lt own k hk).1
    have := Blk.lt hcb
    omega
  · refine wpList_append_cols hgd s x ho base v L hs hown g 1 c [q] rfl hx hM (by simpa using hlen) hbase ?_
    intro v' w' own b hg
    have Q' : QB w' cb cq' := (hg.block cb (Blk.lt hcb) (fun e => hne cb e.symm rfl)).trans hcb
    refine h v' w' own b hg Q' (fun k hk => ?_)
    rintro rfl
    rcases own.2 with ⟨rfl, _⟩ | ⟨r, cap, cur, rfl, hb, hr, h4, h5, h6, h7⟩
    · cases hk
    · have hkr : r = k := by simpa [Value.ownBlock] using hk
      subst hkr
      have e := Q'.symm.trans hr
      simp only [Option.some.injEq, Obj.cells.injEq] at e
      rw [← e.1] at h6
      have h8 : (4 : Nat) = cap * 4 := h6
      rw [List.length_append] at h4
      have h9 : 0 < L.length := List.length_pos_iff.2 hL
      simp only [List.length_cons, List.length_nil] at h4
      omega
theorem cq_cells {w : World} {g : Nat} {seen : List Qc} (h : Blk w g 67 (cq seen).toArray) (i : Nat) (q : Qc) (hq : seen[i]? = some q) : w.cell? ⟨g, i * 4, none⟩ = some (.int .u8 (q.r.toNat : Int)) ∧ w.cell? ⟨g, i * 4 + 1, none⟩ = some (.int .u8 (q.g.toNat : Int)) ∧ w.cell? ⟨g, i * 4 + 2, none⟩ = some (.int .u8 (q.b.toNat : Int)) ∧ w.cell? ⟨g, i * 4 + 3, none⟩ = some (.int .u8 (q.a.toNat : Int)) := by
  have k : ∀ j, j < 4 → w.cell? ⟨g, i * 4 + j, none⟩ = q.cells[j]? := fun j hj => by
    rw [Blk.cell h, List.getElem?_toArray, cq_at _ i j q hq hj]
  exact ⟨k 0 (by omega), k 1 (by omega), k 2 (by omega), k 3 (by omega)⟩
/-- what holds while the document decodes -/
structure RqI (w0 w : World) (b2 b4 lb gs base W H : Nat) (v : Value) (L : List Qc) (last : Qc) (seen : List Qc) : Prop where
  A : RI w b2 0 0 (.slice none 0 0) 0 0
  X : RI w b4 (W : Int) (H : Int) v 0 0
  O : OwnsQ w base v L
  nil_ : L = [] → v = .slice none 0 0
  Lb : QB w lb last
  S : Blk w gs 67 (cq seen).toArray
  sl : seen.length = 64
  B : Below w0.heap.size w0 w
  nb : w0.heap.size ≤ base
  n4 : w0.heap.size ≤ b4
  n24 : b2 ≠ b4
  nl : lb < base
  ng : gs < base
  nl0 : w0.heap.size ≤ lb
  ng0 : w0.heap.size ≤ gs
  hlg : lb ≠ gs
  hb : base ≤ w.heap.size
section
variable {w0 w w' : World} {b2 b4 lb gs base W H : Nat} {v v' : Value} {L M : List Qc} {last c : Qc} {seen : List Qc} {S : List Nat}
theorem RqI.turn (P : RqI w0 w b2 b4 lb gs base W H v L last seen) (t : Turn S w w') (hS : ∀ i ∈ S, w0.heap.size ≤ i ∧ i ≠ b2 ∧ i ≠ b4 ∧ i ≠ lb ∧ i ≠ gs ∧ ∀ k, v.ownBlock = some k → k ≠ i) : RqI w0 w' b2 b4 lb gs base W H v L last seen :=
  ⟨Blk.turn P.A t (fun e => (hS _ e).2.1 rfl), Blk.turn P.X t (fun e => (hS _ e).2.2.1 rfl), by
    refine ⟨P.O.1, ?_⟩
    rcases P.O.2 with h | ⟨r, cap, cur, hv, hb, hr, h4, h5, h6, h7⟩
    · exact .inl h
    · refine .inr ⟨r, cap, cur, hv, hb, ?_, h4, h5, h6, h7⟩
      exact Blk.turn hr t (fun e => (hS _ e).2.2.2.2.2 r (by rw [hv]; rfl) rfl), P.nil_, Blk.turn P.Lb t (fun e => (hS _ e).2.2.2.1 rfl), Blk.turn P.S t (fun e => (hS _ e).2.2.2.2.1 rfl), P.sl, Turn.belowNext P.B t (fun i hi => (hS i hi).1) P.B.size, P.nb, P.n4, P.n24, P.nl, P.ng, P.nl0, P.ng0, P.hlg, Nat.le_trans P.hb t.size⟩
theorem RqI.below (P : RqI w0 w b2 b4 lb gs base W H v L last seen) (b : Below w.heap.size w w') : RqI w0 w' b2 b4 lb gs base W H v L last seen :=
  P.turn (Turn.of_below (S := []) b) (by simp)
theorem RqI.drew (P : RqI w0 w b2 b4 lb gs base W H v L last seen) : RqI w0 w.drew b2 b4 lb gs base W H v L last seen := ⟨P.A, P.X, P.O, P.nil_, P.Lb, P.S, P.sl, P.B.drew, P.nb, P.n4, P.n24, P.nl, P.ng, P.nl0, P.ng0, P.hlg, P.hb⟩
theorem RqI.alloc (P : RqI w0 w b2 b4 lb gs base W H v L last seen) (o : Obj) : RqI w0 (w.alloc o) b2 b4 lb gs base W H v L last seen := P.below ((Below.refl _ _).alloc (Nat.le_refl _) _)
theorem RqI.vge (P : RqI w0 w b2 b4 lb gs base W H v L last seen) : ∀ k, v.ownBlock = some k → base ≤ k ∧ k < w.heap.size := World.ownsRow.lt P.O
theorem OwnsQ.neT {b : Nat} {t : TypeId} {cs : Array Value} (h : OwnsQ w base v L) (hb : Blk w b t cs) (ht : t ≠ 67) : ∀ k, v.ownBlock = some k → k ≠ b := by
  intro k hk
  rcases h.2 with ⟨rfl, _⟩ | ⟨g, cap, cur, rfl, hg, hh, r⟩
  · cases hk
  · have : g = k := by simpa [Value.ownBlock] using hk
    subst this
    exact (Blk.ne_ hb hh ht).symm
/-- an append, and its store into the image -/
theorem RqI.put (P : RqI w0 w b2 b4 lb gs base W H v L last seen) (hg : w.grownBy w' v.ownBlock) (own : OwnsQ w' base v' M) (hM : M ≠ []) : RqI w0 (w'.setCell ⟨b4, 2, none⟩ v') b2 b4 lb gs base W H v' M last seen := by
  have A' : RI w' b2 0 0 (.slice none 0 0) 0 0 := (hg.block b2 (Blk.lt P.A) (fun e => P.O.neT P.A (by decide) b2 e.symm rfl)).trans P.A
  have X' : RI w' b4 (W : Int) (H : Int) v 0 0 := (hg.block b4 (Blk.lt P.X) (fun e => P.O.neT P.X (by decide) b4 e.symm rfl)).trans P.X
  have L' : QB w' lb last := (hg.block lb (Blk.lt P.Lb) (fun e => by have := (P.vge lb e.symm).1; have := P.nl; omega)).trans P.Lb
  have S' : Blk w' gs 67 (cq seen).toArray := (hg.block gs (Blk.lt P.S) (fun e => by have := (P.vge gs e.symm).1; have := P.ng; omega)).trans P.S
  have B' : Below w0.heap.size w0 w' := P.B.grown hg P.B.size (fun k hk => Nat.le_trans P.nb (P.vge k hk).1)
  have t : Turn [b4] w' (w'.setCell ⟨b4, 2, none⟩ v') := (Turn.refl _ _).set_ 2 _ (by simp)
  refine ⟨Blk.turn A' t (by simpa using P.n24), (Blk.set_ X' 2 _).eq_ rfl, own.farRI X', fun e => absurd e hM, Blk.turn L' t (by simpa using Blk.ne_ L' X' (by decide)), Blk.turn S' t (by simpa using Blk.ne_ S' X' (by decide)), P.sl, below_set B' P.n4, P.nb, P.n4, P.n24, P.nl, P.ng, P.nl0, P.ng0, P.hlg, ?_⟩
  have h1 : w.heap.size ≤ w'.heap.size := hg.size
  have := P.hb
  simp [World.setCell]
  omega
theorem OwnsQ.turnK (o : OwnsQ w base v L) (t : Turn S w w') (hS : ∀ k, v.ownBlock = some k → k ∉ S) : OwnsQ w' base v L := by
  refine ⟨o.1, ?_⟩
  rcases o.2 with h | ⟨r, cap, cur, hv, hb, hr, h4, h5, h6, h7⟩
  · exact .inl h
  · refine .inr ⟨r, cap, cur, hv, hb, ?_, h4, h5, h6, h7⟩
    exact Blk.turn hr t (hS r (by rw [hv]; rfl))
/-- the last colour is told anew -/
theorem RqI.setLast (P : RqI w0 w b2 b4 lb gs base W H v L last seen) (c : Qc) : RqI w0 (stQ w lb 0 c) b2 b4 lb gs base W H v L c seen := by
  have t : Turn [lb] w (stQ w lb 0 c) := (Turn.refl _ _).stQ (by simp)
  exact ⟨Blk.turn P.A t (by simpa using Blk.ne_ P.A P.Lb (by decide)), Blk.turn P.X t (by simpa using Blk.ne_ P.X P.Lb (by decide)), P.O.turnK t (fun k hk => by have := (P.vge k hk).1; have := P.nl; simp only [List.mem_cons, List.not_mem_nil, or_false]; omega), P.nil_, ((((Blk.set_ P.Lb 0 _).set_ 1 _).set_ 2 _).set_ 3 _).eq_ rfl, Blk.turn P.S t (by simpa using P.hlg.symm), P.sl, Turn.belowNext P.B t (by simpa using P.nl0) P.B.size, P.nb, P.n4, P.n24, P.nl, P.ng, P.nl0, P.ng0, P.hlg, Nat.le_trans P.hb t.size⟩
/-- a colour is noted -/
theorem RqI.setSeen (P : RqI w0 w b2 b4 lb gs base W H v L last seen) (c : Qc) (p : Nat) : RqI w0 (stQ w gs (p * 4) c) b2 b4 lb gs base W H v L last (seen.set p c) := by
  have t : Turn [gs] w (stQ w gs (p * 4) c) := (Turn.refl _ _).stQ (by simp)
  exact ⟨Blk.turn P.A t (by simpa using Blk.ne_ P.A P.S (by decide)), Blk.turn P.X t (by simpa using Blk.ne_ P.X P.S (by decide)), P.O.turnK t (fun k hk => by have := (P.vge k hk).1; have := P.ng; simp only [List.mem_cons, List.not_mem_nil, or_false]; omega), P.nil_, Blk.turn P.Lb t (by simpa using P.hlg), (Blk.set_ (Blk.set_ (Blk.set_ (Blk.set_ P.S (p * 4) _) (p * 4 + 1) _) (p * 4 + 2) _) (p * 4 + 3) _).eq_ (cq_set _ _ _), by rw [List.length_set]; exact P.sl, Turn.belowNext P.B t (by simpa using P.ng0) P.B.size, P.nb, P.n4, P.n24, P.nl, P.ng, P.nl0, P.ng0, P.hlg, Nat.le_trans P.hb t.size⟩
end
end Go.Proofs.YtojobfnbakiicaaGreat
