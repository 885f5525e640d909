/- sun: a head's numbers; what is wrong with it. -/
import Derived.Test.YtccldalagbfmhaaGreatSunLaw
import Derived.Test.YtccldalagbfmhaaGreatDecMore
namespace Go.Proofs.YtccldalagbfmhaaGreat
open Go.RowKit
set_option linter.unusedVariables false
set_option linter.unusedSimpArgs false

set_option maxRecDepth 100000 in
set_option maxHeartbeats 1000000 in
theorem sunHighC {x : ByteArray} {a : Nat} (h : a + 4 ≤ x.size) (hs : x.size ≤ 1099511627776) (w : World) : Calls Tryz.prog 190 #[.string x, .int .i64 (a : Int)] w fun e w' => e = .returned (.int .i64 (beN x a 4 : Int)) ∧ w' = w.drew := by
  have i0 : (a : Int) < (x.size : Int) := by omega
  have i1 : (a : Int) + 1 < (x.size : Int) := by omega
  have i2 : (a : Int) + 2 < (x.size : Int) := by omega
  have i3 : (a : Int) + 3 < (x.size : Int) := by omega
  have n0 : a < x.size := by omega
  have n1 : a + 1 < x.size := by omega
  have n2 : a + 2 < x.size := by omega
  have n3 : a + 3 < x.size := by omega
  have c0 : x[a].toNat < 256 := UInt8.toNat_lt _
  have c1 : x[a + 1].toNat < 256 := UInt8.toNat_lt _
  have c2 : x[a + 2].toNat < 256 := UInt8.toNat_lt _
  have c3 : x[a + 3].toNat < 256 := UInt8.toNat_lt _
  have HE := Lib.hid (be4_or c0 c1 c2 c3)
  have hw1 := IntWalk.i64_in ((a : Int) + 1) (by omega)
  have hw2 := IntWalk.i64_in ((a : Int) + 2) (by omega)
  have hw3 := IntWalk.i64_in ((a : Int) + 3) (by omega)
  have j1 : 0 ≤ (a : Int) + 1 := by omega
  have j2 : 0 ≤ (a : Int) + 2 := by omega
  have j3 : 0 ≤ (a : Int) + 3 := by omega
  have t1 : ((a : Int) + 1).toNat = a + 1 := by omega
  have t2 : ((a : Int) + 2).toNat = a + 2 := by omega
  have t3 : ((a : Int) + 3).toNat = a + 3 := by omega
  go_enter Tryz.func190, Tryz.ntmps190
  go_wp2_with fail
  go_region
  go_wp2_with fail
  go_ret
  have e : beN x a 4 = ((x[a].toNat * 256 + x[a + 1].toNat) * 256 + x[a + 2].toNat) * 256 + x[a + 3].toNat := by
    simp only [beN, bat_eq n0, bat_eq n1, bat_eq n2, bat_eq n3, Nat.add_zero, Nat.zero_mul, Nat.zero_add]
  rw [e]
  exact ⟨ret1 (vint HE.out), rfl⟩
theorem sunHigh_at {x : ByteArray} {a v : Nat} (h : a + 4 ≤ x.size) (hs : x.size ≤ 1099511627776) (hv : beN x a 4 = v) (w : World) : Calls Tryz.prog 190 #[.string x, .int .i64 (a : Int)] w fun e w' => e = .returned (.int .i64 (v : Int)) ∧ w' = w.drew := by
  rw [← hv]
  exact sunHighC h hs w
theorem sunBadC (k a : Int) (w : World) : Calls Tryz.prog 189 #[.int .i64 k, .int .i64 a] w fun e w' => e = .returned (.agg #[.int .i64 k, .int .i64 8, .int .i64 a]) ∧ Below w.heap.size w w' := by
  go_enter Tryz.func189, Tryz.ntmps189
  go_wp2_with fail
  exact bodyPost_ret (v := .agg #[.int .i64 k, .int .i64 8, .int .i64 a]) (by simp [results, Tryz.results189, go_sem]) rfl ⟨rfl, (Below.refl _ _).alloc (Nat.le_refl _) _⟩
theorem sunDepthC (b : Nat) (hb : b < 4294967296) (w : World) : Calls Tryz.prog 115 #[.int .i64 (b : Int)] w fun e w' => e = .returned (.bool (decide (SunDepth b))) ∧ w = w' := by
  by_cases h : SunDepth b
  · have e : decide (SunDepth b) = true := decide_eq_true h
    rw [e]
    unfold SunDepth at h
    clear e
    rcases h with rfl | rfl | rfl | rfl
    all_goals
      go_enter Tryz.func115, Tryz.ntmps115
      go_wp2_with fail
      go_ret
      exact ⟨rfl, rfl⟩
  · have e : decide (SunDepth b) = false := decide_eq_false h
    rw [e]
    unfold SunDepth at h
    have h1 : ¬ (b : Int) = 1 := by omega
    have h2 : ¬ (b : Int) = 8 := by omega
    have h3 : ¬ (b : Int) = 24 := by omega
    have h4 : ¬ (b : Int) = 32 := by omega
    have E := Lib.hid (ret1 (congrArg Value.bool (show ((b : Int) == 1 || (b : Int) == 8 || (b : Int) == 24 || (b : Int) == 32) = false by simp [h1, h2, h3, h4])))
    clear e h
    go_enter Tryz.func115, Tryz.ntmps115
    go_wp2_with fail
    go_ret
    exact ⟨E.out, rfl⟩
theorem sunMappedC (k n : Nat) (hk : k < 4294967296) (hn : n < 4294967296) (w : World) : Calls Tryz.prog 191 #[.int .i64 (k : Int), .int .i64 (n : Int)] w fun e w' => e = .returned (.bool (decide (SunMapped k n))) ∧ w = w' := by
  by_cases h0 : k = 0
  · subst h0
    have e : ((n : Int) == 0) = decide (SunMapped 0 n) := by
      rw [Bool.eq_iff_iff, decide_eq_true_iff, beq_iff_eq]
      unfold SunMapped
      omega
    have E := Lib.hid (ret1 (congrArg Value.bool e))
    clear e
    go_enter Tryz.func191, Tryz.ntmps191
    go_wp2_with fail
    go_ret
    exact ⟨E.out, rfl⟩
  · have hk0 : ¬ (k : Int) = 0 := by omega
    by_cases c1 : 0 < n
    · have d1 : (0 : Int) < (n : Int) := by omega
      by_cases c2 : n ≤ 768
      · have d2 : (n : Int) ≤ 768 := by omega
        have e : ((n : Int) % 3 == 0) = decide (SunMapped k n) := by
          rw [Bool.eq_iff_iff, decide_eq_true_iff, beq_iff_eq]
          unfold SunMapped
          omega
        have E := Lib.hid (ret1 (congrArg Value.bool e))
        clear e
        go_enter Tryz.func191, Tryz.ntmps191
        go_wp2_with fail
        go_ret
        exact ⟨E.out, rfl⟩
      · have e : decide (SunMapped k n) = false := decide_eq_false (by unfold SunMapped; omega)
        rw [e]
        have d2 : ¬ (n : Int) ≤ 768 := by omega
        clear e
        go_enter Tryz.func191, Tryz.ntmps191
        go_wp2_with fail
        go_ret
        exact ⟨rfl, rfl⟩
    · have e : decide (SunMapped k n) = false := decide_eq_false (by unfold SunMapped; omega)
      rw [e]
      have d1 : ¬ (0 : Int) < (n : Int) := by omega
      clear e
      go_enter Tryz.func191, Tryz.ntmps191
      go_wp2_with fail
      go_ret
      exact ⟨rfl, rfl⟩
theorem sunWb_at {j : Nat} (h : j < 4) (w : World) : (Instr.index 9 (.string ⟨#[89, 166, 106, 149]⟩) (.int .i64 (j : Int))).run Tryz.prog w = .ok (.int .u8 ((sunW.getD j 0 : Nat) : Int)) w := by
  rcases (by omega : j = 0 ∨ j = 1 ∨ j = 2 ∨ j = 3) with rfl | rfl | rfl | rfl
  all_goals kernel_rfl
def sunPic0 : Value := .agg #[.int .i64 0, .int .i64 0, .int .i64 0, .int .i64 0, .int .i64 0]
def sunPicV (h : SunHd) : Value := .agg #[.int .i64 (h.W : Int), .int .i64 (h.H : Int), .int .i64 (h.bits : Int), .int .i64 (h.typ : Int), .int .i64 (h.n : Int)]
set_option maxRecDepth 100000 in
set_option maxHeartbeats 1000000 in
theorem sunParse_word {b : ByteArray} {i : Nat} (hb : b.size = 32) (hi : i < 4) (o : Off b sunW 0 4 i) (w : World) :
    Calls Tryz.prog 137 #[.string b, .int .i64 0] w fun e w' => e = .returned (.tuple #[sunPic0, .agg #[.int .i64 2, .int .i64 8, .int .i64 (i : Int)]]) ∧ Below w.heap.size w w' := by
  go_enter Tryz.func137, Tryz.ntmps137
  go_wp2_with fail
  have I0 := PF.new w 97 (by decide)
  have hpf : w.heap.size ≠ w.heap.size + 1 := by omega
  generalize (w.alloc (.cells #[.int .i64 0, .int .i64 0, .int .i64 0, .int .i64 0, .int .i64 0] 97)).alloc (.cells #[.int .i64 0, .int .i64 0, .int .i64 0] 31) = ws at I0 ⊢
  generalize w.heap.size + 1 = f at I0 hpf ⊢
  have HI := Lib.hid I0
  have hfp := hpf.symm
  clear I0
  go_loopg [10] 4 (fun m k wr => ∃ j : Nat, j + m = 4 ∧ j ≤ i ∧ k = .int .i64 (j : Int) ∧ PF w wr 97 w.heap.size f)
  case atStart => exact ⟨0, by omega, by omega, rfl, HI.out⟩
  case round =>
    obtain ⟨j, hj, hji, rfl, p1⟩ := hrel
    have P1 := Lib.hid p1
    have hlt : (j : Int) < 4 := by omega
    have hjs : (j : Int) < (b.size : Int) := by omega
    have hjs' : j < b.size := by omega
    have hlit := sunWb_at (j := j) (by omega)
    have hbat := bat_eq hjs'
    obtain ⟨c, hc⟩ : ∃ c, sunW.getD j 0 = c := ⟨_, rfl⟩
    rw [hc] at hlit
    by_cases he : j = i
    · subst he
      have hne : ((b[j].toNat : Nat) : Int) ≠ (c : Int) := by
        have := o.stop (by omega)
        rw [hbat, hc] at this
        omega
      clear hb hbat p1
      go_wp2_with fail
      go_region
      go_wp2_with (go_at_call 189; refine (sunBadC 2 _ _).mono ?_; rintro e w5 ⟨rfl, b5⟩; have P5 := P1.out.drew.below b5; obtain ⟨c0, c1, c2, c3, c4, z0, z1, z2, z3, z4, zl, d0, d1, d2, y0, y1, y2, yl⟩ := P5.all)
      exact bodyPost_ret (v := .tuple #[sunPic0, .agg #[.int .i64 2, .int .i64 8, .int .i64 (j : Int)]]) (by simp [results, Tryz.results137, go_sem, c0, c1, c2, c3, c4, d0, d1, d2, hpf, hfp, sunPic0]) rfl ⟨rfl, P5.store⟩
    · have heq : ((b[j].toNat : Nat) : Int) = (c : Int) := by
        have := o.same j (by omega) (by omega)
        rw [hbat, hc] at this
        omega
      clear hb hbat p1
      go_wp2_with fail
      go_region
      go_wp2_with fail
      go_roundg (4 - (j + 1))
      case measure => omega
      case rel => exact ⟨j + 1, by omega, by omega, by go_num, P1.out.drew⟩
end Go.Proofs.YtccldalagbfmhaaGreat
