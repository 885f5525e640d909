/- The document's check of a farbfeld head, and Sides. The document's Sides of a farbfeld file. -/
import Derived.Test.YtfgcbhcfekonnaaFfA
import Derived.Test.YtfgcbhcfekonnaaRefBe
namespace Go.Proofs.Ytfgcbhcfekonnaa
open Go.RowKit
set_option linter.unusedVariables false
set_option linter.unusedSimpArgs false

theorem ri_new (w : World) : RI (w.alloc (.cells #[.int .i64 0, .int .i64 0, .slice none 0 0, .int .i64 0, .int .i64 0] 60)) w.heap.size 0 0 (.slice none 0 0) 0 0 ∧ Below w.heap.size w (w.alloc (.cells #[.int .i64 0, .int .i64 0, .slice none 0 0, .int .i64 0, .int .i64 0] 60)) := ⟨RI.new w, (Below.refl _ _).alloc (Nat.le_refl _) _⟩
set_option maxRecDepth 100000 in
set_option maxHeartbeats 1000000 in
theorem refFfCheck_word {b : ByteArray} {i : Nat} (hb : 16 ≤ b.size) (hsm : b.size ≤ 1099511627776) (hi : i < 8) (o : Off b ffW 0 8 i) (w : World) :
    Calls Try.prog 61 #[.string b] w fun e w' => e = .returned (.agg #[.int .i64 0, .int .i64 0, .slice none 0 0, .int .i64 2, .int .i64 (i : Int)]) ∧ Below w.heap.size w w' := by
  go_enter Try.func61, Try.ntmps61
  go_wp2_with fail
  obtain ⟨F0, B0⟩ := ri_new w
  generalize w.alloc (.cells #[.int .i64 0, .int .i64 0, .slice none 0 0, .int .i64 0, .int .i64 0] 60) = ws at F0 B0 ⊢
  generalize hg : w.heap.size = g at F0 ⊢
  have HG := Lib.hid hg
  clear hg
  have H0 := Lib.hid F0
  have H9 := Lib.hid B0
  clear F0 B0
  go_loopg [4] 8 (fun m k wr => ∃ j : Nat, j + m = 8 ∧ j ≤ i ∧ k = .int .i64 (j : Int) ∧ RI wr g 0 0 (.slice none 0 0) 0 0 ∧ Below w.heap.size w wr)
  case atStart => exact ⟨0, by omega, by omega, rfl, H0.out, H9.out⟩
  case round =>
    obtain ⟨j, hj, hji, rfl, f1, b1⟩ := hrel
    have F2 := Lib.hid f1
    have B2 := Lib.hid b1
    have hlt : (j : Int) < 8 := by omega
    have hjs : (j : Int) < (b.size : Int) := by omega
    have hjs' : j < b.size := by omega
    have hlit := ffWb_at (j := j) (by omega)
    have hbat := bat_eq hjs'
    obtain ⟨c, hc⟩ : ∃ c, ffW.getD j 0 = c := ⟨_, rfl⟩
    rw [hc] at hlit
    by_cases he : j = i
    · subst he
      have hne : ((b[j].toNat : Nat) : Int) ≠ (c : Int) := by
        have := o.stop (by omega)
        rw [hbat, hc] at this
        omega
      clear hb hbat f1 b1
      go_wp2_with fail
      go_region
      go_wp2_with (go_at_call 68; refine (refBadC 2 _ _).mono ?_; rintro e w5 ⟨rfl, b5⟩; have f5 : RI w5 g 0 0 (.slice none 0 0) 0 0 := Blk.below F2.out.drew b5 (Blk.lt F2.out); obtain ⟨c0, c1, c2, c3, c4, z0, z1, z2, z3, z4, fl⟩ := RI.all f5)
      exact bodyPost_ret (v := .agg #[.int .i64 0, .int .i64 0, .slice none 0 0, .int .i64 2, .int .i64 (j : Int)]) (by simp [results, Try.results61, go_sem, c0, c1, c2, c3, c4]) rfl ⟨rfl, Below.st5 (below_next B2.out.drew b5) (Nat.le_of_eq HG.out)⟩
    · have heq : ((b[j].toNat : Nat) : Int) = (c : Int) := by
        have := o.same j (by omega) (by omega)
        rw [hbat, hc] at this
        omega
      clear hb hbat f1 b1
      go_wp2_with fail
      go_region
      go_wp2_with fail
      go_roundg (8 - (j + 1))
      case measure => omega
      case rel => exact ⟨j + 1, by omega, by omega, by go_num, F2.out.drew, B2.out.drew⟩
set_option maxRecDepth 100000 in
set_option maxHeartbeats 2000000 in
theorem refFfCheck_side {b : ByteArray} {v1 v2 : Nat} {r : Value} (hb : 16 ≤ b.size) (hsm : b.size ≤ 1099511627776) (o : Off b ffW 0 8 8) (e1 : beN b 8 4 = v1) (e2 : beN b 12 4 = v2)
    (hr : (v1 = 0 ∧ r = .agg #[.int .i64 0, .int .i64 0, .slice none 0 0, .int .i64 2, .int .i64 8]) ∨ (16384 < v1 ∧ r = .agg #[.int .i64 0, .int .i64 0, .slice none 0 0, .int .i64 3, .int .i64 8]) ∨ (1 ≤ v1 ∧ v1 ≤ 16384 ∧ v2 = 0 ∧ r = .agg #[.int .i64 0, .int .i64 0, .slice none 0 0, .int .i64 2, .int .i64 12]) ∨ (1 ≤ v1 ∧ v1 ≤ 16384 ∧ 16384 < v2 ∧ r = .agg #[.int .i64 0, .int .i64 0, .slice none 0 0, .int .i64 3, .int .i64 12]) ∨ (1 ≤ v1 ∧ v1 ≤ 16384 ∧ 1 ≤ v2 ∧ v2 ≤ 16384 ∧ r = .agg #[.int .i64 0, .int .i64 0, .slice none 0 0, .int .i64 0, .int .i64 0])) (w : World) :
    Calls Try.prog 61 #[.string b] w fun e w' => e = .returned r ∧ Below w.heap.size w w' := by
  have H1 := Lib.hid (fun w => refBe_at (s := b) (a := 8) (n := 4) (v := v1) (by omega) (by omega) e1 w)
  have H2 := Lib.hid (fun w => refBe_at (s := b) (a := 12) (n := 4) (v := v2) (by omega) (by omega) e2 w)
  have hbs : (16 : Int) ≤ (b.size : Int) := by omega
  have b0 : (8 : Int) ≤ (b.size : Int) := by omega
  have b1 : (12 : Int) ≤ (b.size : Int) := by omega
  have HR := Lib.hid hr
  have O := Lib.hid o
  clear e1 e2 hr o
  go_enter Try.func61, Try.ntmps61
  go_wp2_with fail
  obtain ⟨F0, B0⟩ := ri_new w
  generalize w.alloc (.cells #[.int .i64 0, .int .i64 0, .slice none 0 0, .int .i64 0, .int .i64 0] 60) = ws at F0 B0 ⊢
  generalize hg : w.heap.size = g at F0 ⊢
  have HG := Lib.hid hg
  clear hg
  have H0 := Lib.hid F0
  have H9 := Lib.hid B0
  clear F0 B0
  go_loopg [4] 8 (fun m k wr => ∃ j : Nat, j + m = 8 ∧ k = .int .i64 (j : Int) ∧ RI wr g 0 0 (.slice none 0 0) 0 0 ∧ Below w.heap.size w wr)
  case atStart => exact ⟨0, by omega, rfl, H0.out, H9.out⟩
  case round =>
    obtain ⟨j, hj, rfl, f1, b1'⟩ := hrel
    have F1 := Lib.hid f1
    have B1 := Lib.hid b1'
    by_cases hlt' : j < 8
    · have hlt : (j : Int) < 8 := by omega
      have hjs : (j : Int) < (b.size : Int) := by omega
      have hjs' : j < b.size := by omega
      have hlit := ffWb_at (j := j) (by omega)
      have hbat := bat_eq hjs'
      obtain ⟨c, hc⟩ : ∃ c, ffW.getD j 0 = c := ⟨_, rfl⟩
      rw [hc] at hlit
      have heq : ((b[j].toNat : Nat) : Int) = (c : Int) := by
        have := O.out.same j (by omega) (by omega)
        rw [hbat, hc] at this
        omega
      clear hbat f1 b1' hbs b0 b1
      go_wp2_with fail
      go_region
      go_wp2_with fail
      go_roundg (8 - (j + 1))
      case measure => omega
      case rel => exact ⟨j + 1, by omega, by go_num, F1.out.drew, B1.out.drew⟩
    · obtain rfl : j = 8 := by omega
      clear f1 b1'
      go_wp2_with fail
      go_loopg [5] 2 (fun k at' wr => ((k = 2 ∧ at' = .int .i64 8) ∨ (k = 1 ∧ at' = .int .i64 12 ∧ 1 ≤ v1 ∧ v1 ≤ 16384) ∨ (k = 0 ∧ at' = .int .i64 16 ∧ 1 ≤ v1 ∧ v1 ≤ 16384 ∧ 1 ≤ v2 ∧ v2 ≤ 16384)) ∧ RI wr g 0 0 (.slice none 0 0) 0 0 ∧ Below w.heap.size w wr)
      case atStart => exact ⟨.inl ⟨rfl, rfl⟩, F1.out, B1.out⟩
      case round =>
        obtain ⟨hk, f2, b2⟩ := hrel
        have F2 := Lib.hid f2
        have B2 := Lib.hid b2
        rcases hk with ⟨rfl, rfl⟩ | ⟨rfl, rfl, p1, p2⟩ | ⟨rfl, rfl, p1, p2, p3, p4⟩
        · clear f2 b2
          by_cases q0 : v1 = 0
          · have q0' : (v1 : Int) = 0 := by omega
            go_wp2_with (first | (go_at_call 62; refine (H1.out _).mono ?_; rintro e w3 ⟨rfl, rfl⟩) | (go_at_call 68; refine (refBadC 2 _ _).mono ?_; rintro e w5 ⟨rfl, b5⟩; have f5 : RI w5 g 0 0 (.slice none 0 0) 0 0 := Blk.below F2.out b5 (Blk.lt F2.out); obtain ⟨c0, c1, c2, c3, c4, z0, z1, z2, z3, z4, fl⟩ := RI.all f5))
            have hr : r = .agg #[.int .i64 0, .int .i64 0, .slice none 0 0, .int .i64 2, .int .i64 8] := by rcases HR.out with ⟨_, h⟩ | ⟨_, h⟩ | ⟨_, _, _, h⟩ | ⟨_, _, _, h⟩ | ⟨_, _, _, _, h⟩ <;> first | exact h | (exfalso; omega)
            exact bodyPost_ret (v := .agg #[.int .i64 0, .int .i64 0, .slice none 0 0, .int .i64 2, .int .i64 8]) (by simp [results, Try.results61, go_sem, c0, c1, c2, c3, c4]) rfl ⟨ret1 hr.symm, Below.st5 (below_next B2.out b5) (Nat.le_of_eq HG.out)⟩

          · have q0' : ¬ (v1 : Int) = 0 := by omega
            by_cases q1 : 16384 < v1
            · have q1' : (16384 : Int) < (v1 : Int) := by omega
              go_wp2_with (first | (go_at_call 62; refine (H1.out _).mono ?_; rintro e w3 ⟨rfl, rfl⟩) | (go_at_call 68; refine (refBadC 3 _ _).mono ?_; rintro e w5 ⟨rfl, b5⟩; have f5 : RI w5 g 0 0 (.slice none 0 0) 0 0 := Blk.below F2.out b5 (Blk.lt F2.out); obtain ⟨c0, c1, c2, c3, c4, z0, z1, z2, z3, z4, fl⟩ := RI.all f5))
              have hr : r = .agg #[.int .i64 0, .int .i64 0, .slice none 0 0, .int .i64 3, .int .i64 8] := by rcases HR.out with ⟨_, h⟩ | ⟨_, h⟩ | ⟨_, _, _, h⟩ | ⟨_, _, _, h⟩ | ⟨_, _, _, _, h⟩ <;> first | exact h | (exfalso; omega)
              exact bodyPost_ret (v := .agg #[.int .i64 0, .int .i64 0, .slice none 0 0, .int .i64 3, .int .i64 8]) (by simp [results, Try.results61, go_sem, c0, c1, c2, c3, c4]) rfl ⟨ret1 hr.symm, Below.st5 (below_next B2.out b5) (Nat.le_of_eq HG.out)⟩

            · have q1' : ¬ (16384 : Int) < (v1 : Int) := by omega
              go_wp2_with (first | (go_at_call 62; refine (H1.out _).mono ?_; rintro e w3 ⟨rfl, rfl⟩))
              go_roundg 1
              case measure => omega
              case rel => exact ⟨.inr (.inl ⟨rfl, rfl, by omega, by omega⟩), F2.out, B2.out⟩
        · clear f2 b2
          by_cases q0 : v2 = 0
          · have q0' : (v2 : Int) = 0 := by omega
            go_wp2_with (first | (go_at_call 62; refine (H2.out _).mono ?_; rintro e w3 ⟨rfl, rfl⟩) | (go_at_call 68; refine (refBadC 2 _ _).mono ?_; rintro e w5 ⟨rfl, b5⟩; have f5 : RI w5 g 0 0 (.slice none 0 0) 0 0 := Blk.below F2.out b5 (Blk.lt F2.out); obtain ⟨c0, c1, c2, c3, c4, z0, z1, z2, z3, z4, fl⟩ := RI.all f5))
            have hr : r = .agg #[.int .i64 0, .int .i64 0, .slice none 0 0, .int .i64 2, .int .i64 12] := by rcases HR.out with ⟨_, h⟩ | ⟨_, h⟩ | ⟨_, _, _, h⟩ | ⟨_, _, _, h⟩ | ⟨_, _, _, _, h⟩ <;> first | exact h | (exfalso; omega)
            exact bodyPost_ret (v := .agg #[.int .i64 0, .int .i64 0, .slice none 0 0, .int .i64 2, .int .i64 12]) (by simp [results, Try.results61, go_sem, c0, c1, c2, c3, c4]) rfl ⟨ret1 hr.symm, Below.st5 (below_next B2.out b5) (Nat.le_of_eq HG.out)⟩

          · have q0' : ¬ (v2 : Int) = 0 := by omega
            by_cases q1 : 16384 < v2
            · have q1' : (16384 : Int) < (v2 : Int) := by omega
              go_wp2_with (first | (go_at_call 62; refine (H2.out _).mono ?_; rintro e w3 ⟨rfl, rfl⟩) | (go_at_call 68; refine (refBadC 3 _ _).mono ?_; rintro e w5 ⟨rfl, b5⟩; have f5 : RI w5 g 0 0 (.slice none 0 0) 0 0 := Blk.below F2.out b5 (Blk.lt F2.out); obtain ⟨c0, c1, c2, c3, c4, z0, z1, z2, z3, z4, fl⟩ := RI.all f5))
              have hr : r = .agg #[.int .i64 0, .int .i64 0, .slice none 0 0, .int .i64 3, .int .i64 12] := by rcases HR.out with ⟨_, h⟩ | ⟨_, h⟩ | ⟨_, _, _, h⟩ | ⟨_, _, _, h⟩ | ⟨_, _, _, _, h⟩ <;> first | exact h | (exfalso; omega)
              exact bodyPost_ret (v := .agg #[.int .i64 0, .int .i64 0, .slice none 0 0, .int .i64 3, .int .i64 12]) (by simp [results, Try.results61, go_sem, c0, c1, c2, c3, c4]) rfl ⟨ret1 hr.symm, Below.st5 (below_next B2.out b5) (Nat.le_of_eq HG.out)⟩

            · have q1' : ¬ (16384 : Int) < (v2 : Int) := by omega
              go_wp2_with (first | (go_at_call 62; refine (H2.out _).mono ?_; rintro e w3 ⟨rfl, rfl⟩))
              go_roundg 0
              case measure => omega
              case rel => exact ⟨.inr (.inr ⟨rfl, rfl, p1, p2, by omega, by omega⟩), F2.out, B2.out⟩
        · obtain ⟨c0, c1, c2, c3, c4, z0, z1, z2, z3, z4, fl⟩ := RI.all f2
          clear f2 b2
          go_wp2_with fail
          have hr : r = .agg #[.int .i64 0, .int .i64 0, .slice none 0 0, .int .i64 0, .int .i64 0] := by rcases HR.out with ⟨_, h⟩ | ⟨_, h⟩ | ⟨_, _, _, h⟩ | ⟨_, _, _, h⟩ | ⟨_, _, _, _, h⟩ <;> first | exact h | (exfalso; omega)
          exact bodyPost_ret (v := .agg #[.int .i64 0, .int .i64 0, .slice none 0 0, .int .i64 0, .int .i64 0]) (by simp [results, Try.results61, go_sem, c0, c1, c2, c3, c4]) rfl ⟨ret1 hr.symm, Below.st5 B2.out (Nat.le_of_eq HG.out)⟩
def riTold (o : Option (Nat × Nat)) : Value := match o with | none => .agg #[.int .i64 0, .int .i64 0, .slice none 0 0, .int .i64 0, .int .i64 0] | some f => .agg #[.int .i64 0, .int .i64 0, .slice none 0 0, .int .i64 (f.1 : Int), .int .i64 (f.2 : Int)]
theorem refFfCheckC {b : ByteArray} (hb : 16 ≤ b.size) (hsm : b.size ≤ 1099511627776) (w : World) :
    Calls Try.prog 61 #[.string b] w fun e w' => e = .returned (riTold (ffHead b)) ∧ Below w.heap.size w w' := by
  have hk := ffHead_is b
  generalize ffHead b = o at hk ⊢
  cases hk with
  | word i hi o => exact refFfCheck_word hb hsm hi o w
  | w0 o h' => exact refFfCheck_side hb hsm o h' rfl (.inl ⟨rfl, rfl⟩) w
  | w1 o h' => exact refFfCheck_side hb hsm o rfl rfl (.inr (.inl ⟨h', rfl⟩)) w
  | h0 o h1 h2 h' => exact refFfCheck_side hb hsm o rfl h' (.inr (.inr (.inl ⟨h1, h2, rfl, rfl⟩))) w
  | h1 o h1 h2 h' => exact refFfCheck_side hb hsm o rfl rfl (.inr (.inr (.inr (.inl ⟨h1, h2, h', rfl⟩)))) w
  | ok o h1 h2 h3 h4 => exact refFfCheck_side hb hsm o rfl rfl (.inr (.inr (.inr (.inr ⟨h1, h2, h3, h4, rfl⟩)))) w
end Go.Proofs.Ytfgcbhcfekonnaa
namespace Go.Proofs.Ytfgcbhcfekonnaa
open Go.RowKit
set_option linter.unusedVariables false
set_option linter.unusedSimpArgs false

theorem riFld3 (a b c d e : Value) : ∀ w, (Instr.field 60 (.agg #[a, b, c, d, e]) 3).run Try.prog w = .ok d w := fun _ => by kernel_rfl
theorem ffHead_ne {s : ByteArray} {f : Nat × Nat} (h : ffHead s = some f) : f.1 ≠ 0 ∧ f.1 ≠ 4 := by
  have hk := ffHead_is s
  rw [h] at hk
  cases hk <;> simp
theorem ffHead_sides {s : ByteArray} (h : ffHead s = none) : 1 ≤ beN s 8 4 ∧ beN s 8 4 ≤ 16384 ∧ 1 ≤ beN s 12 4 ∧ beN s 12 4 ≤ 16384 := by
  have hk := ffHead_is s
  rw [h] at hk
  cases hk with
  | ok o a b c d => exact ⟨a, b, c, d⟩
set_option maxRecDepth 100000 in
set_option maxHeartbeats 1000000 in
theorem refFfSides {s : ByteArray} (hsm : s.size ≤ 1099511627776) (w : World) :
    Calls Try.prog 22 #[.string s] w fun e w' => e = .returned (.tuple #[.int .i64 ((ffSides s).1 : Int), .int .i64 ((ffSides s).2 : Int)]) ∧ Below w.heap.size w w' := by
  unfold ffSides
  by_cases hs : s.size < 16
  · rw [if_pos hs]
    have hsI : (s.size : Int) < 16 := by omega
    go_enter Try.func22, Try.ntmps22
    go_wp2_with fail
    go_ret2
    exact ⟨rfl, Below.refl _ _⟩
  · rw [if_neg hs]
    have hsI : ¬ (s.size : Int) < 16 := by omega
    have hsI2 : (16 : Int) ≤ (s.size : Int) := by omega
    have hsI3 : (12 : Int) ≤ (s.size : Int) := by omega
    have HC := Lib.hid (fun w => refFfCheckC (b := s) (by omega) hsm w)
    have HB := Lib.hid (fun a (ha : a + 4 ≤ 16) w => refBe_at (s := s) (a := a) (n := 4) (by omega) (by omega) rfl w)
    cases hh : ffHead s with
    | some f =>
      have hf := (ffHead_ne hh).1
      have hfI : ¬ (f.1 : Int) = 0 := by omega
      rw [hh] at HC
      simp only [riTold] at HC
      have fx := riFld3 (.int .i64 0) (.int .i64 0) (.slice none 0 0) (.int .i64 (f.1 : Int)) (.int .i64 (f.2 : Int))
      clear hh hs hf hsm
      go_enter Try.func22, Try.ntmps22
      go_wp2_with (go_at_call 61; refine (HC.out _).mono ?_; rintro e w1 ⟨rfl, b1⟩)
      go_ret2
      exact ⟨rfl, b1⟩
    | none =>
      rw [hh] at HC
      simp only [riTold] at HC
      have fx := riFld3 (.int .i64 0) (.int .i64 0) (.slice none 0 0) (.int .i64 0) (.int .i64 0)
      clear hh hs hsm
      go_enter Try.func22, Try.ntmps22
      go_wp2_with (go_at_call 61; refine (HC.out _).mono ?_; rintro e w1 ⟨rfl, b1⟩)
      go_region_with (go_at_call 62; refine (HB.out _ (by decide) _).mono ?_; rintro e w2 ⟨rfl, rfl⟩)
      all_goals go_wp2_with fail
      all_goals go_ret2
      all_goals exact ⟨rfl, b1.drew⟩
end Go.Proofs.Ytfgcbhcfekonnaa
