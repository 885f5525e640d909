/- farbfeld: a number of bytes, the highest first; what is wrong with a head; a sample. farbfeld: what is wrong with a head. farbfeld: Sides. -/
import Derived.Test.YtfgcbhcfekonnaaFfLaw
import Derived.Test.YtfgcbhcfekonnaaLedger
import Derived.Test.YtfgcbhcfekonnaaScaler
import Derived.Test.YtfgcbhcfekonnaaBuf
import Derived.Deep.RegionHeld3
import Derived.Test.YtfgcbhcfekonnaaTake
namespace Go.Proofs.Ytfgcbhcfekonnaa
open Go.RowKit
set_option linter.unusedVariables false
set_option linter.unusedSimpArgs false

theorem ffBadC (k a : Int) (w : World) : Calls Try.prog 110 #[.int .i64 k, .int .i64 a] w fun e w' => e = .returned (.agg #[.int .i64 k, .int .i64 6, .int .i64 a]) ∧ Below w.heap.size w w' := by
  go_enter Try.func110, Try.ntmps110
  go_wp2_with fail
  exact bodyPost_ret (v := .agg #[.int .i64 k, .int .i64 6, .int .i64 a]) (by simp [results, Try.results110, go_sem]) rfl ⟨rfl, (Below.refl _ _).alloc (Nat.le_refl _) _⟩
theorem beN_or {x : ByteArray} {i j : Nat} (hj : j < 4) (hx : i + j < x.size) : bits .or .i64 (wrap64 ((beN x i j : Int) * 256)) (wrap64 ((x[i + j].toNat : Nat) : Int)) = (beN x i (j + 1) : Int) := by
  have hb := beN_lt x i j
  have hp : 256 ^ j ≤ 256 ^ 3 := Nat.pow_le_pow_right (by omega) (by omega)
  have hc : x[i + j].toNat < 256 := UInt8.toNat_lt _
  have e1 : wrap64 ((beN x i j : Int) * 256) = ((2 ^ 8 * beN x i j : Nat) : Int) := by rw [wrap64_id _ (by omega) (by omega)]; omega
  rw [e1, wrap64_id ((x[i + j].toNat : Nat) : Int) (by omega) (by omega), or64 _ _ (by omega) (by omega), ← Nat.two_pow_add_eq_or_of_lt hc, beN, bat_eq hx]
  omega
set_option maxRecDepth 100000 in
theorem ffHighC (x : ByteArray) (hx : x.size ≤ 4) (w : World) : Calls Try.prog 91 #[.string x] w fun e w' => e = .returned (.int .i64 (beN x 0 x.size : Int)) ∧ w = w' := by
  go_enter Try.func91, Try.ntmps91
  go_wp2_with fail
  go_loopg [3, 7] x.size (fun m v k wr => ∃ j : Nat, j + m = x.size ∧ v = .int .i64 (beN x 0 j : Int) ∧ k = .int .i64 (j : Int) ∧ w = wr)
  case atStart => exact ⟨0, by omega, rfl, rfl, rfl⟩
  case round =>
    obtain ⟨j, hj, rfl, rfl, rfl⟩ := hrel
    by_cases hlt : j < x.size
    · have hltI : (j : Int) < (x.size : Int) := by omega
      have hv := Lib.hid (beN_or (x := x) (i := 0) (j := j) (by omega) (by omega))
      go_wp2_with fail
      go_roundg (x.size - (j + 1))
      case measure => omega
      case rel => exact ⟨j + 1, by omega, by have := hv.out; simp only [Nat.zero_add] at this; rw [this], by go_num, rfl⟩
    · obtain rfl : j = x.size := by omega
      have hltI : ¬ (x.size : Int) < (x.size : Int) := by omega
      go_wp2_with fail
      go_ret
      exact ⟨rfl, rfl⟩
theorem ffHigh_at {s : ByteArray} {a n v : Nat} (h : a + n ≤ s.size) (hn : n ≤ 4) (hv : beN s a n = v) (w : World) : Calls Try.prog 91 #[.string (s.extract a (a + n))] w fun e w' => e = .returned (.int .i64 (v : Int)) ∧ w = w' := by
  have e := extract_size s a n h
  have := ffHighC (s.extract a (a + n)) (by omega) w
  rw [e, beN_extract s a n n (Nat.le_refl _), hv] at this
  exact this
set_option maxRecDepth 100000 in
set_option maxHeartbeats 1000000 in
/-- the closure that tells a sample -/
theorem ffSampleC {w : World} {s : ByteArray} {a i c q v : Nat} {av : List Nat} (hs : a + 8 ≤ s.size) (hi : i ≤ 3) (hv : beN s (a + 2 * i) 2 = v) (h0 : w.cell? ⟨c, 0, none⟩ = some (.pointer (some ⟨q, 0, none⟩))) (hc : SclA w q 65535 av) (hav : ∀ i ∈ av, i < w.heap.size) :
    Calls Try.prog 93 #[.string (s.extract a (a + 8)), .int .i64 (i : Int), .pointer (some ⟨c, 0, none⟩)] w fun e w' => e = .returned (.int .u8 (sround (v : Int) 65535)) ∧ SclA w' q 65535 av ∧ Turn [q] w w' := by
  have hvl : v < 65536 := by rw [← hv]; exact beN_lt s _ 2
  have hm : smay (v : Int) ((65535 : Nat) : Int) = true := smay_iff.2 ⟨by omega, by omega, by omega, by omega⟩
  have hx : smax (v : Int) ((65535 : Nat) : Int) = sround (v : Int) 65535 := by simp only [smax, hm]; rfl
  have hz := extract_size s a 8 hs
  have e1 : (s.extract a (a + 8)).extract (2 * i) (2 * i + 2) = s.extract (a + 2 * i) (a + 2 * i + 2) := by
    rw [ByteArray.extract_extract]
    congr 1
    omega
  have HH := Lib.hid (fun w => ffHigh_at (s := s) (a := a + 2 * i) (n := 2) (v := v) (by omega) (by omega) hv w)
  have HS := Lib.hid (sclOfA (v : Int) hc.drew hav (by decide) (by decide))
  rw [hm, hx] at HS
  have hi0 : (0 : Int) ≤ 2 * (i : Int) := by omega
  have hi1 : 2 * (i : Int) ≤ 2 * (i : Int) + 2 := by omega
  have hi2 : 2 * (i : Int) + 2 ≤ ((s.extract a (a + 8)).size : Int) := by omega
  have hw1 := IntWalk.i64_in (2 * (i : Int)) (by omega)
  have hw2 := IntWalk.i64_in (2 * (i : Int) + 2) (by omega)
  clear hc hm hx
  generalize s.extract a (a + 8) = t at e1 hz hi2 ⊢
  generalize sround (v : Int) 65535 = z at HS ⊢
  have ht1 : (2 * (i : Int)).toNat = 2 * i := by omega
  have ht2 : (2 * (i : Int) + 2).toNat = 2 * i + 2 := by omega
  go_enter Try.func93, Try.ntmps93
  go_wp2_with fail
  go_region_with (first
    | (go_at_call 91; refine (HH.out _).mono ?_; rintro e w1 ⟨rfl, rfl⟩)
    | (go_at_call 94; refine HS.out.mono ?_; rintro e w1 ⟨rfl, q1, q2⟩))
  all_goals go_wp2_with fail
  all_goals go_ret
  all_goals exact ⟨rfl, q1, (Turn.refl _ _).drew.trans q2⟩
end Go.Proofs.Ytfgcbhcfekonnaa
namespace Go.Proofs.Ytfgcbhcfekonnaa
open Go.RowKit
set_option linter.unusedVariables false
set_option linter.unusedSimpArgs false

theorem ffWb_at {j : Nat} (h : j < 8) (w : World) : (Instr.index 9 (.string ⟨#[102, 97, 114, 98, 102, 101, 108, 100]⟩) (.int .i64 (j : Int))).run Try.prog w = .ok (.int .u8 ((ffW.getD j 0 : Nat) : Int)) w := by
  rcases (by omega : j = 0 ∨ j = 1 ∨ j = 2 ∨ j = 3 ∨ j = 4 ∨ j = 5 ∨ j = 6 ∨ j = 7) with rfl | rfl | rfl | rfl | rfl | rfl | rfl | rfl
  all_goals kernel_rfl
/-- the box of a fault that is not told yet -/
abbrev FB0 (w : World) (g : Nat) : Prop := Blk w g 54 #[.int .i64 0, .int .i64 0, .int .i64 0]
theorem fb_new (w : World) : FB0 (w.alloc (.cells #[.int .i64 0, .int .i64 0, .int .i64 0] 54)) w.heap.size ∧ Below w.heap.size w (w.alloc (.cells #[.int .i64 0, .int .i64 0, .int .i64 0] 54)) ∧ w.heap.size ≤ w.heap.size :=
  ⟨Blk.new _ _ _, (Below.refl _ _).alloc (Nat.le_refl _) _, Nat.le_refl _⟩
set_option maxRecDepth 100000 in
set_option maxHeartbeats 1000000 in
theorem ffCheck_word {b : ByteArray} {i : Nat} (hb : b.size = 16) (hi : i < 8) (o : Off b ffW 0 8 i) (w : World) :
    Calls Try.prog 90 #[.string b, .int .i64 0] w fun e w' => e = .returned (.agg #[.int .i64 2, .int .i64 6, .int .i64 (i : Int)]) ∧ Below w.heap.size w w' := by
  go_enter Try.func90, Try.ntmps90
  go_wp2_with fail
  obtain ⟨F0, B0, G0⟩ := fb_new w
  generalize w.alloc (.cells #[.int .i64 0, .int .i64 0, .int .i64 0] 54) = ws at F0 B0 ⊢
  generalize hg : w.heap.size = g at F0 G0 ⊢
  have HG := Lib.hid hg
  clear hg
  have H0 := Lib.hid F0
  have H1 := Lib.hid B0
  clear F0 B0
  go_loopg [8] 8 (fun m k wr => ∃ j : Nat, j + m = 8 ∧ j ≤ i ∧ k = .int .i64 (j : Int) ∧ FB0 wr g ∧ Below w.heap.size w wr)
  case atStart => exact ⟨0, by omega, by omega, rfl, H0.out, H1.out⟩
  case round =>
    obtain ⟨j, hj, hji, rfl, f1, b1⟩ := hrel
    have F1 := Lib.hid f1
    have B1 := Lib.hid b1
    have hlt : (j : Int) < 8 := by omega
    have hjs : (j : Int) < (b.size : Int) := by omega
    have hjs' : j < b.size := by omega
    have hlit := ffWb_at (j := j) (by omega)
    have hbat := bat_eq hjs'
    obtain ⟨c, hc⟩ : ∃ c, ffW.getD j 0 = c := ⟨_, rfl⟩
    rw [hc] at hlit
    by_cases he : j = i
    · subst he
      have hne : ((b[j].toNat : Nat) : Int) ≠ (c : Int) := by
        have := o.stop (by omega)
        rw [hbat, hc] at this
        omega
      clear hb hbat f1 b1
      go_wp2_with fail
      go_region
      go_wp2_with (go_at_call 110; refine (ffBadC 2 _ _).mono ?_; rintro e w5 ⟨rfl, b5⟩; have f5 : FB0 w5 g := Blk.below F1.out.drew b5 (Blk.lt F1.out); have c0 := Blk.cell f5 0; have c1 := Blk.cell f5 1; have c2 := Blk.cell f5 2; have z0 := Blk.frozen f5 0; have z1 := Blk.frozen f5 1; have z2 := Blk.frozen f5 2; have fl := Blk.lt f5)
      exact bodyPost_ret (v := .agg #[.int .i64 2, .int .i64 6, .int .i64 (j : Int)]) (by simp [results, Try.results90, go_sem, c0, c1, c2]) rfl ⟨rfl, below_set3 (below_next B1.out.drew b5) (Nat.le_of_eq HG.out)⟩
    · have heq : ((b[j].toNat : Nat) : Int) = (c : Int) := by
        have := o.same j (by omega) (by omega)
        rw [hbat, hc] at this
        omega
      clear hb hbat f1 b1
      go_wp2_with fail
      go_region
      go_wp2_with fail
      go_roundg (8 - (j + 1))
      case measure => omega
      case rel => exact ⟨j + 1, by omega, by omega, by go_num, F1.out.drew, B1.out.drew⟩
set_option maxRecDepth 100000 in
set_option maxHeartbeats 2000000 in
/-- what is wrong with a side -/
theorem ffCheck_side {b : ByteArray} {v1 v2 : Nat} {r : Value} (hb : b.size = 16) (o : Off b ffW 0 8 8) (e1 : beN b 8 4 = v1) (e2 : beN b 12 4 = v2)
    (hr : (v1 = 0 ∧ r = .agg #[.int .i64 2, .int .i64 6, .int .i64 8]) ∨ (16384 < v1 ∧ r = .agg #[.int .i64 3, .int .i64 6, .int .i64 8]) ∨ (1 ≤ v1 ∧ v1 ≤ 16384 ∧ v2 = 0 ∧ r = .agg #[.int .i64 2, .int .i64 6, .int .i64 12]) ∨ (1 ≤ v1 ∧ v1 ≤ 16384 ∧ 16384 < v2 ∧ r = .agg #[.int .i64 3, .int .i64 6, .int .i64 12]) ∨ (1 ≤ v1 ∧ v1 ≤ 16384 ∧ 1 ≤ v2 ∧ v2 ≤ 16384 ∧ r = .agg #[.int .i64 0, .int .i64 0, .int .i64 0])) (w : World) :
    Calls Try.prog 90 #[.string b, .int .i64 0] w fun e w' => e = .returned r ∧ Below w.heap.size w w' := by
  have H1 := Lib.hid (fun w => ffHigh_at (s := b) (a := 8) (n := 4) (v := v1) (by omega) (by omega) e1 w)
  have H2 := Lib.hid (fun w => ffHigh_at (s := b) (a := 12) (n := 4) (v := v2) (by omega) (by omega) e2 w)
  have hbs : (16 : Int) ≤ (b.size : Int) := by omega
  have b0 : (8 : Int) ≤ (b.size : Int) := by omega
  have b1 : (12 : Int) ≤ (b.size : Int) := by omega
  have hbn : 16 ≤ b.size := by omega
  have HR := Lib.hid hr
  have O := Lib.hid o
  clear e1 e2 hr hb o
  go_enter Try.func90, Try.ntmps90
  go_wp2_with fail
  obtain ⟨F0, B0, G0⟩ := fb_new w
  generalize w.alloc (.cells #[.int .i64 0, .int .i64 0, .int .i64 0] 54) = ws at F0 B0 ⊢
  generalize hg : w.heap.size = g at F0 G0 ⊢
  have HG := Lib.hid hg
  clear hg
  have J0 := Lib.hid F0
  have J1 := Lib.hid B0
  clear F0 B0
  go_loopg [8] 8 (fun m k wr => ∃ j : Nat, j + m = 8 ∧ k = .int .i64 (j : Int) ∧ FB0 wr g ∧ Below w.heap.size w wr)
  case atStart => exact ⟨0, by omega, rfl, J0.out, J1.out⟩
  case round =>
    obtain ⟨j, hj, rfl, f1, b1'⟩ := hrel
    have F1 := Lib.hid f1
    have B1 := Lib.hid b1'
    by_cases hlt' : j < 8
    · have hlt : (j : Int) < 8 := by omega
      have hjs : (j : Int) < (b.size : Int) := by omega
      have hjs' : j < b.size := by omega
      have hlit := ffWb_at (j := j) (by omega)
      have hbat := bat_eq hjs'
      obtain ⟨c, hc⟩ : ∃ c, ffW.getD j 0 = c := ⟨_, rfl⟩
      rw [hc] at hlit
      have heq : ((b[j].toNat : Nat) : Int) = (c : Int) := by
        have := O.out.same j (by omega) (by omega)
        rw [hbat, hc] at this
        omega
      clear hbat f1 b1' hbs b0 b1
      go_wp2_with fail
      go_region
      go_wp2_with fail
      go_roundg (8 - (j + 1))
      case measure => omega
      case rel => exact ⟨j + 1, by omega, by go_num, F1.out.drew, B1.out.drew⟩
    · obtain rfl : j = 8 := by omega
      clear f1 b1'
      go_wp2_with fail
      go_loopg [6] 2 (fun k at' wr => ((k = 2 ∧ at' = .int .i64 8) ∨ (k = 1 ∧ at' = .int .i64 12 ∧ 1 ≤ v1 ∧ v1 ≤ 16384) ∨ (k = 0 ∧ at' = .int .i64 16 ∧ 1 ≤ v1 ∧ v1 ≤ 16384 ∧ 1 ≤ v2 ∧ v2 ≤ 16384)) ∧ FB0 wr g ∧ Below w.heap.size w wr)
      case atStart => exact ⟨.inl ⟨rfl, rfl⟩, F1.out, B1.out⟩
      case round =>
        obtain ⟨hk, f2, b2⟩ := hrel
        have F2 := Lib.hid f2
        have B2 := Lib.hid b2
        rcases hk with ⟨rfl, rfl⟩ | ⟨rfl, rfl, p1, p2⟩ | ⟨rfl, rfl, p1, p2, p3, p4⟩
        · clear f2 b2
          by_cases q0 : v1 = 0
          · have q0' : (v1 : Int) = 0 := by omega
            go_wp2_with (first | (go_at_call 91; refine (H1.out _).mono ?_; rintro e w3 ⟨rfl, rfl⟩) | (go_at_call 110; refine (ffBadC 2 _ _).mono ?_; rintro e w5 ⟨rfl, b5⟩; have f5 : FB0 w5 g := Blk.below F2.out b5 (Blk.lt F2.out); have c0 := Blk.cell f5 0; have c1 := Blk.cell f5 1; have c2 := Blk.cell f5 2; have z0 := Blk.frozen f5 0; have z1 := Blk.frozen f5 1; have z2 := Blk.frozen f5 2; have fl := Blk.lt f5))
            have hr : r = .agg #[.int .i64 2, .int .i64 6, .int .i64 8] := by rcases HR.out with ⟨_, h⟩ | ⟨_, h⟩ | ⟨_, _, _, h⟩ | ⟨_, _, _, h⟩ | ⟨_, _, _, _, h⟩ <;> first | exact h | (exfalso; omega)
            exact bodyPost_ret (v := .agg #[.int .i64 2, .int .i64 6, .int .i64 8]) (by simp [results, Try.results90, go_sem, c0, c1, c2]) rfl ⟨ret1 hr.symm, below_set3 (below_next B2.out b5) (Nat.le_of_eq HG.out)⟩
          · have q0' : ¬ (v1 : Int) = 0 := by omega
            by_cases q1 : 16384 < v1
            · have q1' : (16384 : Int) < (v1 : Int) := by omega
              go_wp2_with (first | (go_at_call 91; refine (H1.out _).mono ?_; rintro e w3 ⟨rfl, rfl⟩) | (go_at_call 110; refine (ffBadC 3 _ _).mono ?_; rintro e w5 ⟨rfl, b5⟩; have f5 : FB0 w5 g := Blk.below F2.out b5 (Blk.lt F2.out); have c0 := Blk.cell f5 0; have c1 := Blk.cell f5 1; have c2 := Blk.cell f5 2; have z0 := Blk.frozen f5 0; have z1 := Blk.frozen f5 1; have z2 := Blk.frozen f5 2; have fl := Blk.lt f5))
              have hr : r = .agg #[.int .i64 3, .int .i64 6, .int .i64 8] := by rcases HR.out with ⟨_, h⟩ | ⟨_, h⟩ | ⟨_, _, _, h⟩ | ⟨_, _, _, h⟩ | ⟨_, _, _, _, h⟩ <;> first | exact h | (exfalso; omega)
              exact bodyPost_ret (v := .agg #[.int .i64 3, .int .i64 6, .int .i64 8]) (by simp [results, Try.results90, go_sem, c0, c1, c2]) rfl ⟨ret1 hr.symm, below_set3 (below_next B2.out b5) (Nat.le_of_eq HG.out)⟩
            · have q1' : ¬ (16384 : Int) < (v1 : Int) := by omega
              go_wp2_with (first | (go_at_call 91; refine (H1.out _).mono ?_; rintro e w3 ⟨rfl, rfl⟩))
              go_roundg 1
              case measure => omega
              case rel => exact ⟨.inr (.inl ⟨rfl, rfl, by omega, by omega⟩), F2.out, B2.out⟩
        · clear f2 b2
          by_cases q0 : v2 = 0
          · have q0' : (v2 : Int) = 0 := by omega
            go_wp2_with (first | (go_at_call 91; refine (H2.out _).mono ?_; rintro e w3 ⟨rfl, rfl⟩) | (go_at_call 110; refine (ffBadC 2 _ _).mono ?_; rintro e w5 ⟨rfl, b5⟩; have f5 : FB0 w5 g := Blk.below F2.out b5 (Blk.lt F2.out); have c0 := Blk.cell f5 0; have c1 := Blk.cell f5 1; have c2 := Blk.cell f5 2; have z0 := Blk.frozen f5 0; have z1 := Blk.frozen f5 1; have z2 := Blk.frozen f5 2; have fl := Blk.lt f5))
            have hr : r = .agg #[.int .i64 2, .int .i64 6, .int .i64 12] := by rcases HR.out with ⟨_, h⟩ | ⟨_, h⟩ | ⟨_, _, _, h⟩ | ⟨_, _, _, h⟩ | ⟨_, _, _, _, h⟩ <;> first | exact h | (exfalso; omega)
            exact bodyPost_ret (v := .agg #[.int .i64 2, .int .i64 6, .int .i64 12]) (by simp [results, Try.results90, go_sem, c0, c1, c2]) rfl ⟨ret1 hr.symm, below_set3 (below_next B2.out b5) (Nat.le_of_eq HG.out)⟩
          · have q0' : ¬ (v2 : Int) = 0 := by omega
            by_cases q1 : 16384 < v2
            · have q1' : (16384 : Int) < (v2 : Int) := by omega
              go_wp2_with (first | (go_at_call 91; refine (H2.out _).mono ?_; rintro e w3 ⟨rfl, rfl⟩) | (go_at_call 110; refine (ffBadC 3 _ _).mono ?_; rintro e w5 ⟨rfl, b5⟩; have f5 : FB0 w5 g := Blk.below F2.out b5 (Blk.lt F2.out); have c0 := Blk.cell f5 0; have c1 := Blk.cell f5 1; have c2 := Blk.cell f5 2; have z0 := Blk.frozen f5 0; have z1 := Blk.frozen f5 1; have z2 := Blk.frozen f5 2; have fl := Blk.lt f5))
              have hr : r = .agg #[.int .i64 3, .int .i64 6, .int .i64 12] := by rcases HR.out with ⟨_, h⟩ | ⟨_, h⟩ | ⟨_, _, _, h⟩ | ⟨_, _, _, h⟩ | ⟨_, _, _, _, h⟩ <;> first | exact h | (exfalso; omega)
              exact bodyPost_ret (v := .agg #[.int .i64 3, .int .i64 6, .int .i64 12]) (by simp [results, Try.results90, go_sem, c0, c1, c2]) rfl ⟨ret1 hr.symm, below_set3 (below_next B2.out b5) (Nat.le_of_eq HG.out)⟩
            · have q1' : ¬ (16384 : Int) < (v2 : Int) := by omega
              go_wp2_with (first | (go_at_call 91; refine (H2.out _).mono ?_; rintro e w3 ⟨rfl, rfl⟩))
              go_roundg 0
              case measure => omega
              case rel => exact ⟨.inr (.inr ⟨rfl, rfl, p1, p2, by omega, by omega⟩), F2.out, B2.out⟩
        · have c0 := Blk.cell f2 0
          have c1 := Blk.cell f2 1
          have c2 := Blk.cell f2 2
          have z0 := Blk.frozen f2 0
          have z1 := Blk.frozen f2 1
          have z2 := Blk.frozen f2 2
          have fl := Blk.lt f2
          clear f2 b2
          go_wp2_with fail
          have hr : r = .agg #[.int .i64 0, .int .i64 0, .int .i64 0] := by rcases HR.out with ⟨_, h⟩ | ⟨_, h⟩ | ⟨_, _, _, h⟩ | ⟨_, _, _, h⟩ | ⟨_, _, _, _, h⟩ <;> first | exact h | (exfalso; omega)
          exact bodyPost_ret (v := .agg #[.int .i64 0, .int .i64 0, .int .i64 0]) (by simp [results, Try.results90, go_sem, c0, c1, c2]) rfl ⟨ret1 hr.symm, below_set3 B2.out (Nat.le_of_eq HG.out)⟩
end Go.Proofs.Ytfgcbhcfekonnaa
namespace Go.Proofs.Ytfgcbhcfekonnaa
open Go.RowKit
set_option linter.unusedVariables false
set_option linter.unusedSimpArgs false

theorem offFrom_ext {s b : ByteArray} {W : List Nat} {m : Nat} (h : ∀ k, k < m → bat b k = bat s k) : ∀ n j, j + n ≤ m → offFrom b W n j = offFrom s W n j := by
  intro n
  induction n with
  | zero => intro j _; rfl
  | succ n ih =>
    intro j hj
    unfold offFrom
    rw [h j (by omega), ih (j + 1) (by omega)]
theorem beN_ext {s b : ByteArray} {m : Nat} (h : ∀ k, k < m → bat b k = bat s k) (i : Nat) : ∀ n, i + n ≤ m → beN b i n = beN s i n := by
  intro n
  induction n with
  | zero => intro _; rfl
  | succ n ih =>
    intro hj
    unfold beN
    rw [h (i + n) (by omega), ih (by omega)]
theorem ffHead_cut (s : ByteArray) : ffHead (s.extract 0 (0 + 16)) = ffHead s := by
  have h : ∀ k, k < 16 → bat (s.extract 0 (0 + 16)) k = bat s k := fun k hk => by rw [bat_extract s 0 16 k hk, Nat.zero_add]
  unfold ffHead
  rw [offFrom_ext h 8 0 (by omega), beN_ext h 8 4 (by omega), beN_ext h 12 4 (by omega)]
theorem ffHigh_head {s : ByteArray} {a v : Nat} (hs : 16 ≤ s.size) (ha : a + 4 ≤ 16) (hv : beN s a 4 = v) (w : World) : Calls Try.prog 91 #[.string ((s.extract 0 (0 + 16)).extract a (a + 4))] w fun e w' => e = .returned (.int .i64 (v : Int)) ∧ w = w' := by
  have h : ∀ k, k < 16 → bat (s.extract 0 (0 + 16)) k = bat s k := fun k hk => by rw [bat_extract s 0 16 k hk, Nat.zero_add]
  have e1 : beN (s.extract 0 (0 + 16)) a 4 = v := (beN_ext h a 4 ha).trans hv
  have e2 := extract_size s 0 16 (by omega)
  exact ffHigh_at (by omega) (by omega) e1 w
/-- what a head's fault is told as -/
def ffTold (o : Option (Nat × Nat)) : Value := match o with | none => .agg #[.int .i64 0, .int .i64 0, .int .i64 0] | some f => .agg #[.int .i64 (f.1 : Int), .int .i64 6, .int .i64 (f.2 : Int)]
theorem ffCheckC {b : ByteArray} (hb : b.size = 16) (w : World) :
    Calls Try.prog 90 #[.string b, .int .i64 0] w fun e w' => e = .returned (ffTold (ffHead b)) ∧ Below w.heap.size w w' := by
  have hk := ffHead_is b
  generalize ffHead b = o at hk ⊢
  cases hk with
  | word i hi o => exact ffCheck_word hb hi o w
  | w0 o h' => exact ffCheck_side hb o h' rfl (.inl ⟨rfl, rfl⟩) w
  | w1 o h' => exact ffCheck_side hb o rfl rfl (.inr (.inl ⟨h', rfl⟩)) w
  | h0 o h1 h2 h' => exact ffCheck_side hb o rfl h' (.inr (.inr (.inl ⟨h1, h2, rfl, rfl⟩))) w
  | h1 o h1 h2 h' => exact ffCheck_side hb o rfl rfl (.inr (.inr (.inr (.inl ⟨h1, h2, h', rfl⟩)))) w
  | ok o h1 h2 h3 h4 => exact ffCheck_side hb o rfl rfl (.inr (.inr (.inr (.inr ⟨h1, h2, h3, h4, rfl⟩)))) w
set_option maxRecDepth 100000 in
set_option maxHeartbeats 1000000 in
theorem ffSides_spent {w : World} {p g : Nat} {s : ByteArray} {x y : Led} (h : SrcAt w p g s 0 s.size 0) (k : LedAt w g x) (ok : x.Ok) (e : x.work 1 = (y, false)) (hy : y.reason ≠ 0) :
    Calls Try.prog 64 #[.pointer (some ⟨p, 0, none⟩)] w fun e w' => e = .returned (.tuple #[.int .i64 0, .int .i64 0, .agg #[.int .i64 4, .int .i64 6, .int .i64 0]]) ∧ SrcAt w' p g s 0 s.size 0 ∧ LedAt w' g y ∧ Turn [p, g] w w' := by
  have HOK := Lib.hid ok
  have HE := Lib.hid e
  have HY := Lib.hid hy
  clear ok e hy
  have hp := Blk.lt h
  have hg := Blk.lt k
  have F0 := FB.new w
  have S0 : SrcAt (w.alloc (.cells #[.int .i64 0, .int .i64 0, .int .i64 0] 54)) p g s 0 s.size 0 := Blk.alloc h _
  have L0 : LedAt (w.alloc (.cells #[.int .i64 0, .int .i64 0, .int .i64 0] 54)) g x := Blk.alloc k _
  have T0 : Turn [p, g] w (w.alloc (.cells #[.int .i64 0, .int .i64 0, .int .i64 0] 54)) := (Turn.refl _ _).alloc _
  have nf : w.heap.size ∉ [p, g] := by simp; omega
  clear h k
  go_enter Try.func64, Try.ntmps64
  go_wp2_with fail
  generalize w.alloc (.cells #[.int .i64 0, .int .i64 0, .int .i64 0] 54) = ws at F0 S0 L0 T0 ⊢
  generalize hf : w.heap.size = f at F0 nf ⊢
  have HF := Lib.hid hf
  have F1 := Lib.hid F0
  have S1 := Lib.hid S0
  have L1 := Lib.hid L0
  have T1 := Lib.hid T0
  have hpf : p ≠ f := by rw [← hf]; exact Nat.ne_of_lt hp
  have hgf : g ≠ f := by rw [← hf]; exact Nat.ne_of_lt hg
  clear F0 S0 L0 T0 hf hp hg
  refine (srcAt_at S1.out).mono ?_
  rintro e w1 ⟨rfl, rfl⟩
  go_wp2_with (first
    | (go_at_call 89; refine (take_spent 16 S1.out L1.out HOK.out HE.out).mono ?_; rintro e w2 ⟨rfl, s2, l2, t2⟩; have f2 := FB.turn F1.out t2 nf)
    | (go_at_call 66; refine (srcFault_spent 6 s2 l2 HY.out).mono ?_; rintro e w4 ⟨rfl, b4⟩; have f4 := FB.below f2 b4; have s4 := Blk.below s2 b4 (Blk.lt s2); have l4 := Blk.below l2 b4 (Blk.lt l2); have t4 := (T1.out.trans t2).trans (Turn.of_below (S := [p, g]) b4); obtain ⟨c0, c1, c2, z0, z1, z2, fl⟩ := FB.all f4))
  exact bodyPost_ret (v := .tuple #[.int .i64 0, .int .i64 0, .agg #[.int .i64 4, .int .i64 6, .int .i64 0]]) (by simp [results, Try.results64, go_sem, c0, c1, c2]) rfl ⟨rfl, Blk.st3 s4 hpf, Blk.st3 l4 hgf, Turn.st3 t4 (.inr (Nat.le_of_eq HF.out))⟩
set_option maxRecDepth 100000 in
set_option maxHeartbeats 1000000 in
theorem ffSides_short {w : World} {p g : Nat} {s : ByteArray} {x y : Led} (h : SrcAt w p g s 0 s.size 0) (hsm : s.size ≤ 1099511627776) (k : LedAt w g x) (ok : x.Ok) (e : x.work 1 = (y, true)) (hy : y.reason = 0) (hs : s.size < 16) :
    Calls Try.prog 64 #[.pointer (some ⟨p, 0, none⟩)] w fun e w' => e = .returned (.tuple #[.int .i64 0, .int .i64 0, .agg #[.int .i64 1, .int .i64 6, .int .i64 (s.size : Int)]]) ∧ SrcAt w' p g s 0 s.size 0 ∧ LedAt w' g y ∧ Turn [p, g] w w' := by
  have HOK := Lib.hid ok
  have HE := Lib.hid e
  have HY := Lib.hid hy
  have HO : Hid (SrcOk s 0 s.size 0) := Lib.hid ⟨Nat.le_refl _, Nat.zero_le _, Nat.le_refl _, hsm⟩
  clear ok e hy
  have hp := Blk.lt h
  have hg := Blk.lt k
  have F0 := FB.new w
  have S0 : SrcAt (w.alloc (.cells #[.int .i64 0, .int .i64 0, .int .i64 0] 54)) p g s 0 s.size 0 := Blk.alloc h _
  have L0 : LedAt (w.alloc (.cells #[.int .i64 0, .int .i64 0, .int .i64 0] 54)) g x := Blk.alloc k _
  have T0 : Turn [p, g] w (w.alloc (.cells #[.int .i64 0, .int .i64 0, .int .i64 0] 54)) := (Turn.refl _ _).alloc _
  have nf : w.heap.size ∉ [p, g] := by simp; omega
  clear h k
  go_enter Try.func64, Try.ntmps64
  go_wp2_with fail
  generalize w.alloc (.cells #[.int .i64 0, .int .i64 0, .int .i64 0] 54) = ws at F0 S0 L0 T0 ⊢
  generalize hf : w.heap.size = f at F0 nf ⊢
  have HF := Lib.hid hf
  have F1 := Lib.hid F0
  have S1 := Lib.hid S0
  have L1 := Lib.hid L0
  have T1 := Lib.hid T0
  have hpf : p ≠ f := by rw [← hf]; exact Nat.ne_of_lt hp
  have hgf : g ≠ f := by rw [← hf]; exact Nat.ne_of_lt hg
  clear F0 S0 L0 T0 hf hp hg
  refine (srcAt_at S1.out).mono ?_
  rintro e w1 ⟨rfl, rfl⟩
  go_wp2_with (first
    | (go_at_call 89; refine (take_short 16 S1.out HO.out L1.out HOK.out HE.out (by omega)).mono ?_; rintro e w2 ⟨rfl, s2, l2, t2⟩; have f2 := FB.turn F1.out t2 nf)
    | (go_at_call 66; refine (srcFault_short 6 s2 l2 HY.out).mono ?_; rintro e w4 ⟨rfl, b4⟩; have f4 := FB.below f2 b4; have s4 := Blk.below s2 b4 (Blk.lt s2); have l4 := Blk.below l2 b4 (Blk.lt l2); have t4 := (T1.out.trans t2).trans (Turn.of_below (S := [p, g]) b4); obtain ⟨c0, c1, c2, z0, z1, z2, fl⟩ := FB.all f4))
  exact bodyPost_ret (v := .tuple #[.int .i64 0, .int .i64 0, .agg #[.int .i64 1, .int .i64 6, .int .i64 (s.size : Int)]]) (by simp [results, Try.results64, go_sem, c0, c1, c2]) rfl ⟨rfl, Blk.st3 s4 hpf, Blk.st3 l4 hgf, Turn.st3 t4 (.inr (Nat.le_of_eq HF.out))⟩
set_option maxRecDepth 100000 in
set_option maxHeartbeats 1000000 in
theorem ffSides_bad {w : World} {p g : Nat} {s : ByteArray} {x y : Led} {fk fa : Nat} (h : SrcAt w p g s 0 s.size 0) (hsm : s.size ≤ 1099511627776) (k : LedAt w g x) (ok : x.Ok) (e : x.work 1 = (y, true)) (hs : 16 ≤ s.size) (hh : ffHead s = some (fk, fa)) (hk : fk ≠ 0) :
    Calls Try.prog 64 #[.pointer (some ⟨p, 0, none⟩)] w fun e w' => e = .returned (.tuple #[.int .i64 0, .int .i64 0, .agg #[.int .i64 (fk : Int), .int .i64 6, .int .i64 (fa : Int)]]) ∧ SrcAt w' p g s 0 s.size 16 ∧ LedAt w' g y ∧ Turn [p, g] w w' := by
  have hk' : ¬ (fk : Int) = 0 := by omega
  have HOK := Lib.hid ok
  have HE := Lib.hid e
  have HO : Hid (SrcOk s 0 s.size 0) := Lib.hid ⟨Nat.le_refl _, Nat.zero_le _, Nat.le_refl _, hsm⟩
  have hz := extract_size s 0 16 (by omega)
  have HC := Lib.hid (fun w => ffCheckC hz w)
  rw [ffHead_cut, hh] at HC
  have HH := Lib.hid (fun a (ha : a + 4 ≤ 16) w => ffHigh_head (a := a) hs ha rfl w)
  have TT := Lib.hid (fun (w : World) (o : SrcOk s 0 s.size 0) (h : SrcAt w p g s 0 s.size 0) (k : LedAt w g x) => take_yes 16 h o k HOK.out HE.out (by omega))
  generalize s.extract 0 (0 + 16) = hd at hz HC HH TT
  have hz1 : (16 : Int) ≤ (hd.size : Int) := by omega
  have hz2 : (12 : Int) ≤ (hd.size : Int) := by omega
  clear ok e hh
  clear HH hz hs
  have hp := Blk.lt h
  have hg := Blk.lt k
  have F0 := FB.new w
  have S0 : SrcAt (w.alloc (.cells #[.int .i64 0, .int .i64 0, .int .i64 0] 54)) p g s 0 s.size 0 := Blk.alloc h _
  have L0 : LedAt (w.alloc (.cells #[.int .i64 0, .int .i64 0, .int .i64 0] 54)) g x := Blk.alloc k _
  have T0 : Turn [p, g] w (w.alloc (.cells #[.int .i64 0, .int .i64 0, .int .i64 0] 54)) := (Turn.refl _ _).alloc _
  have nf : w.heap.size ∉ [p, g] := by simp; omega
  clear h k
  go_enter Try.func64, Try.ntmps64
  go_wp2_with fail
  generalize w.alloc (.cells #[.int .i64 0, .int .i64 0, .int .i64 0] 54) = ws at F0 S0 L0 T0 ⊢
  generalize hf : w.heap.size = f at F0 nf ⊢
  have HF := Lib.hid hf
  have F1 := Lib.hid F0
  have S1 := Lib.hid S0
  have L1 := Lib.hid L0
  have T1 := Lib.hid T0
  have hpf : p ≠ f := by rw [← hf]; exact Nat.ne_of_lt hp
  have hgf : g ≠ f := by rw [← hf]; exact Nat.ne_of_lt hg
  clear F0 S0 L0 T0 hf hp hg
  refine (srcAt_at S1.out).mono ?_
  rintro e w1 ⟨rfl, rfl⟩
  go_wp2_with (first
    | (go_at_call 89; refine (TT.out _ HO.out S1.out L1.out).mono ?_; rintro e w2 ⟨rfl, s2, l2, t2⟩; have f2 := FB.turn F1.out t2 nf)
    | (go_at_call 90; refine (HC.out _).mono ?_; rintro e w4 ⟨rfl, b4⟩; (try unfold ffTold); have f4 := FB.below f2 b4; have s4 := Blk.below s2 b4 (Blk.lt s2); have l4 := Blk.below l2 b4 (Blk.lt l2); have t4 := (T1.out.trans t2).trans (Turn.of_below (S := [p, g]) b4); obtain ⟨c0, c1, c2, z0, z1, z2, fl⟩ := FB.all f4))
  have f5 := FB.st3 (k' := (fk : Int)) (f' := 6) (i' := (fa : Int)) f4
  have s5 : SrcAt (st3 w4 f (.int .i64 (fk : Int)) (.int .i64 6) (.int .i64 (fa : Int))) p g s 0 s.size 16 := Blk.st3 s4 hpf
  have l5 : LedAt (st3 w4 f (.int .i64 (fk : Int)) (.int .i64 6) (.int .i64 (fa : Int))) g y := Blk.st3 l4 hgf
  have t5 := Turn.st3 (b := f) (u := .int .i64 (fk : Int)) (v := .int .i64 6) (x := .int .i64 (fa : Int)) t4 (.inr (Nat.le_of_eq HF.out))
  change Code.wp _ _ _ _ (st3 w4 f (.int .i64 (fk : Int)) (.int .i64 6) (.int .i64 (fa : Int)))
  generalize st3 w4 f (.int .i64 (fk : Int)) (.int .i64 6) (.int .i64 (fa : Int)) = w5 at f5 s5 l5 t5 ⊢
  clear c0 c1 c2 z0 z1 z2 fl f4 s4 l4
  obtain ⟨c0, c1, c2, z0, z1, z2, fl⟩ := FB.all f5
  go_region
  go_wp2_with fail
  exact bodyPost_ret (v := .tuple #[.int .i64 0, .int .i64 0, .agg #[.int .i64 (fk : Int), .int .i64 6, .int .i64 (fa : Int)]]) (by simp [results, Try.results64, go_sem, c0, c1, c2]) rfl ⟨rfl, (Blk.st3 s5 hpf).drew, (Blk.st3 l5 hgf).drew, (Turn.st3 t5 (.inr (Nat.le_of_eq HF.out))).drew⟩
set_option maxRecDepth 100000 in
set_option maxHeartbeats 1000000 in
theorem ffSides_ok {w : World} {p g W H : Nat} {s : ByteArray} {x y : Led} (h : SrcAt w p g s 0 s.size 0) (hsm : s.size ≤ 1099511627776) (k : LedAt w g x) (ok : x.Ok) (e : x.work 1 = (y, true)) (hs : 16 ≤ s.size) (hh : ffHead s = none) (hW : beN s 8 4 = W) (hH : beN s 12 4 = H) :
    Calls Try.prog 64 #[.pointer (some ⟨p, 0, none⟩)] w fun e w' => e = .returned (.tuple #[.int .i64 (W : Int), .int .i64 (H : Int), .agg #[.int .i64 0, .int .i64 0, .int .i64 0]]) ∧ SrcAt w' p g s 0 s.size 16 ∧ LedAt w' g y ∧ Turn [p, g] w w' := by
  have HOK := Lib.hid ok
  have HE := Lib.hid e
  have HO : Hid (SrcOk s 0 s.size 0) := Lib.hid ⟨Nat.le_refl _, Nat.zero_le _, Nat.le_refl _, hsm⟩
  have hz := extract_size s 0 16 (by omega)
  have HC := Lib.hid (fun w => ffCheckC hz w)
  rw [ffHead_cut, hh] at HC
  have HH := Lib.hid (fun a (ha : a + 4 ≤ 16) w => ffHigh_head (a := a) hs ha rfl w)
  have TT := Lib.hid (fun (w : World) (o : SrcOk s 0 s.size 0) (h : SrcAt w p g s 0 s.size 0) (k : LedAt w g x) => take_yes 16 h o k HOK.out HE.out (by omega))
  generalize s.extract 0 (0 + 16) = hd at hz HC HH TT
  have hz1 : (16 : Int) ≤ (hd.size : Int) := by omega
  have hz2 : (12 : Int) ≤ (hd.size : Int) := by omega
  clear ok e hh
  have HW := Lib.hid hW
  have HI := Lib.hid hH
  clear hz hs hW hH
  have hp := Blk.lt h
  have hg := Blk.lt k
  have F0 := FB.new w
  have S0 : SrcAt (w.alloc (.cells #[.int .i64 0, .int .i64 0, .int .i64 0] 54)) p g s 0 s.size 0 := Blk.alloc h _
  have L0 : LedAt (w.alloc (.cells #[.int .i64 0, .int .i64 0, .int .i64 0] 54)) g x := Blk.alloc k _
  have T0 : Turn [p, g] w (w.alloc (.cells #[.int .i64 0, .int .i64 0, .int .i64 0] 54)) := (Turn.refl _ _).alloc _
  have nf : w.heap.size ∉ [p, g] := by simp; omega
  clear h k
  go_enter Try.func64, Try.ntmps64
  go_wp2_with fail
  generalize w.alloc (.cells #[.int .i64 0, .int .i64 0, .int .i64 0] 54) = ws at F0 S0 L0 T0 ⊢
  generalize hf : w.heap.size = f at F0 nf ⊢
  have HF := Lib.hid hf
  have F1 := Lib.hid F0
  have S1 := Lib.hid S0
  have L1 := Lib.hid L0
  have T1 := Lib.hid T0
  have hpf : p ≠ f := by rw [← hf]; exact Nat.ne_of_lt hp
  have hgf : g ≠ f := by rw [← hf]; exact Nat.ne_of_lt hg
  clear F0 S0 L0 T0 hf hp hg
  refine (srcAt_at S1.out).mono ?_
  rintro e w1 ⟨rfl, rfl⟩
  go_wp2_with (first
    | (go_at_call 89; refine (TT.out _ HO.out S1.out L1.out).mono ?_; rintro e w2 ⟨rfl, s2, l2, t2⟩; have f2 := FB.turn F1.out t2 nf)
    | (go_at_call 90; refine (HC.out _).mono ?_; rintro e w4 ⟨rfl, b4⟩; (try unfold ffTold); have f4 := FB.below f2 b4; have s4 := Blk.below s2 b4 (Blk.lt s2); have l4 := Blk.below l2 b4 (Blk.lt l2); have t4 := (T1.out.trans t2).trans (Turn.of_below (S := [p, g]) b4); obtain ⟨c0, c1, c2, z0, z1, z2, fl⟩ := FB.all f4))
  have f5 := FB.st3 (k' := 0) (f' := 0) (i' := 0) f4
  have s5 : SrcAt (st3 w4 f (.int .i64 0) (.int .i64 0) (.int .i64 0)) p g s 0 s.size 16 := Blk.st3 s4 hpf
  have l5 : LedAt (st3 w4 f (.int .i64 0) (.int .i64 0) (.int .i64 0)) g y := Blk.st3 l4 hgf
  have t5 := Turn.st3 (b := f) (u := .int .i64 0) (v := .int .i64 0) (x := .int .i64 0) t4 (.inr (Nat.le_of_eq HF.out))
  change Code.wp _ _ _ _ (st3 w4 f (.int .i64 0) (.int .i64 0) (.int .i64 0))
  generalize st3 w4 f (.int .i64 0) (.int .i64 0) (.int .i64 0) = w5 at f5 s5 l5 t5 ⊢
  clear c0 c1 c2 z0 z1 z2 fl f4 s4 l4
  obtain ⟨c0, c1, c2, z0, z1, z2, fl⟩ := FB.all f5
  go_region_with (first
    | (go_at_call 91; refine (HH.out _ (by decide) _).mono ?_; rintro e w6 ⟨rfl, rfl⟩))
  all_goals go_wp2_with fail
  all_goals rw [HW.out, HI.out]
  all_goals exact bodyPost_ret (v := .tuple #[.int .i64 (W : Int), .int .i64 (H : Int), .agg #[.int .i64 0, .int .i64 0, .int .i64 0]]) (by simp [results, Try.results64, go_sem, c0, c1, c2]) rfl ⟨rfl, (Blk.st3 s5 hpf).drew, (Blk.st3 l5 hgf).drew, (Turn.st3 t5 (.inr (Nat.le_of_eq HF.out))).drew⟩
end Go.Proofs.Ytfgcbhcfekonnaa
