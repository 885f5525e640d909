/- pcx: a head's numbers, and what they may be. -/
import Derived.Test.YtccldalagbfmhaaGreatPcxLaw
import Derived.Test.YtccldalagbfmhaaGreatDecMore
import Derived.Test.YtccldalagbfmhaaGreatStride
namespace Go.Proofs.YtccldalagbfmhaaGreat
open Go.RowKit
set_option linter.unusedVariables false
set_option linter.unusedSimpArgs false

theorem le2_or {c0 c1 : Nat} (h0 : c0 < 256) (h1 : c1 < 256) : bits .or .i64 (c0 : Int) ((c1 : Int) * 256) = ((c0 + 256 * c1 : Nat) : Int) := by
  rw [show (c1 : Int) * 256 = ((2 ^ 8 * c1 : Nat) : Int) by omega, or64 _ _ (by omega) (by omega), Nat.or_comm, ← Nat.two_pow_add_eq_or_of_lt (by omega)]
  omega
set_option maxRecDepth 100000 in
set_option maxHeartbeats 1000000 in
theorem pcxLowC {x : ByteArray} {a v : Nat} (h : a + 2 ≤ x.size) (hs : x.size ≤ 1099511627776) (hv : le2 x a = v) (w : World) : Calls Tryz.prog 196 #[.string x, .int .i64 (a : Int)] w fun e w' => e = .returned (.int .i64 (v : Int)) ∧ w' = w.drew := by
  have i0 : (a : Int) < (x.size : Int) := by omega
  have i1 : (a : Int) + 1 < (x.size : Int) := by omega
  have n0 : a < x.size := by omega
  have n1 : a + 1 < x.size := by omega
  have c0 : x[a].toNat < 256 := UInt8.toNat_lt _
  have c1 : x[a + 1].toNat < 256 := UInt8.toNat_lt _
  have HE := Lib.hid (le2_or c0 c1)
  have hw1 := IntWalk.i64_in ((a : Int) + 1) (by omega)
  have j1 : 0 ≤ (a : Int) + 1 := by omega
  have t1 : ((a : Int) + 1).toNat = a + 1 := by omega
  have e : v = x[a].toNat + 256 * x[a + 1].toNat := by rw [← hv]; unfold le2; rw [bat_eq n0, bat_eq n1]
  rw [e]
  clear hv e
  go_enter Tryz.func196, Tryz.ntmps196
  go_wp2_with fail
  go_region
  go_wp2_with fail
  go_ret
  exact ⟨ret1 (vint HE.out), rfl⟩
theorem pcxBadC (k a : Int) (w : World) : Calls Tryz.prog 197 #[.int .i64 k, .int .i64 a] w fun e w' => e = .returned (.agg #[.int .i64 k, .int .i64 7, .int .i64 a]) ∧ Below w.heap.size w w' := by
  go_enter Tryz.func197, Tryz.ntmps197
  go_wp2_with fail
  exact bodyPost_ret (v := .agg #[.int .i64 k, .int .i64 7, .int .i64 a]) (by simp [results, Tryz.results197, go_sem]) rfl ⟨rfl, (Below.refl _ _).alloc (Nat.le_refl _) _⟩
theorem pcxVerC (v : Nat) (w : World) : Calls Tryz.prog 81 #[.int .u8 (v : Int)] w fun e w' => e = .returned (.bool (decide (PcxVer v))) ∧ w = w' := by
  by_cases h5 : v ≤ 5
  · have h5I : (v : Int) ≤ 5 := by omega
    by_cases h1 : v = 1
    · have h1I : (v : Int) = 1 := by omega
      have e : decide (PcxVer v) = false := decide_eq_false (by unfold PcxVer; omega)
      rw [e]
      clear e h1
      go_enter Tryz.func81, Tryz.ntmps81
      go_wp2_with fail
      go_ret
      exact ⟨rfl, rfl⟩
    · have h1I : ¬ (v : Int) = 1 := by omega
      have e : decide (PcxVer v) = true := decide_eq_true (by unfold PcxVer; omega)
      rw [e]
      have E := Lib.hid (ret1 (congrArg Value.bool (show ((v : Int) != 1) = true by rw [bne_iff_ne]; exact h1I)))
      clear e h1 h1I
      go_enter Tryz.func81, Tryz.ntmps81
      go_wp2_with fail
      go_ret
      exact ⟨E.out, rfl⟩
  · have h5I : ¬ (v : Int) ≤ 5 := by omega
    have e : decide (PcxVer v) = false := decide_eq_false (by unfold PcxVer; omega)
    rw [e]
    clear e
    go_enter Tryz.func81, Tryz.ntmps81
    go_wp2_with fail
    go_ret
    exact ⟨rfl, rfl⟩
def PcxPairI (b p : Int) : Prop := (b = 8 ∧ (p = 1 ∨ p = 3)) ∨ (b = 1 ∧ (p = 1 ∨ p = 4))
instance (b p : Int) : Decidable (PcxPairI b p) := by unfold PcxPairI; infer_instance
theorem pcxPair_nat (b p : Nat) : PcxPairI (b : Int) (p : Int) ↔ PcxPair b p := by unfold PcxPairI PcxPair; omega
theorem pcxPairI (b p : Int) (w : World) : Calls Tryz.prog 125 #[.int .i64 b, .int .i64 p] w fun e w' => e = .returned (.bool (decide (PcxPairI b p))) ∧ w = w' := by
  by_cases h8 : b = 8
  · subst h8
    by_cases p1 : p = 1
    · subst p1
      have e : decide (PcxPairI 8 1) = true := by decide
      rw [e]
      clear e
      go_enter Tryz.func125, Tryz.ntmps125
      go_wp2_with fail
      go_ret
      exact ⟨rfl, rfl⟩
    · by_cases p3 : p = 3
      · subst p3
        have e : decide (PcxPairI 8 3) = true := by decide
        rw [e]
        clear e
        go_enter Tryz.func125, Tryz.ntmps125
        go_wp2_with fail
        go_ret
        exact ⟨rfl, rfl⟩
      · have e : decide (PcxPairI 8 p) = false := decide_eq_false (by unfold PcxPairI; omega)
        rw [e]
        have E := Lib.hid (ret1 (congrArg Value.bool (show (p == 1 || p == 3) = false by rw [Bool.or_eq_false_iff, beq_eq_false_iff_ne, beq_eq_false_iff_ne]; exact ⟨p1, p3⟩)))
        clear e
        go_enter Tryz.func125, Tryz.ntmps125
        go_wp2_with fail
        go_ret
        exact ⟨E.out, rfl⟩
  · by_cases h1 : b = 1
    · subst h1
      by_cases p1 : p = 1
      · subst p1
        have e : decide (PcxPairI 1 1) = true := by decide
        rw [e]
        clear e
        go_enter Tryz.func125, Tryz.ntmps125
        go_wp2_with fail
        go_ret
        exact ⟨rfl, rfl⟩
      · have e : (p == 1 || p == 4) = decide (PcxPairI 1 p) := by
          rw [Bool.eq_iff_iff, decide_eq_true_iff, Bool.or_eq_true, beq_iff_eq, beq_iff_eq]
          unfold PcxPairI
          omega
        have E := Lib.hid (ret1 (congrArg Value.bool e))
        clear e
        go_enter Tryz.func125, Tryz.ntmps125
        go_wp2_with fail
        go_ret
        exact ⟨E.out, rfl⟩
    · have e : decide (PcxPairI b p) = false := decide_eq_false (by unfold PcxPairI; omega)
      rw [e]
      clear e
      go_enter Tryz.func125, Tryz.ntmps125
      go_wp2_with fail
      go_ret
      exact ⟨rfl, rfl⟩
theorem pcxPairC (b p : Nat) (w : World) : Calls Tryz.prog 125 #[.int .i64 (b : Int), .int .i64 (p : Int)] w fun e w' => e = .returned (.bool (decide (PcxPair b p))) ∧ w = w' := by
  have e : decide (PcxPair b p) = decide (PcxPairI (b : Int) (p : Int)) := by
    rw [Bool.eq_iff_iff, decide_eq_true_iff, decide_eq_true_iff]
    exact (pcxPair_nat b p).symm
  rw [e]
  exact pcxPairI b p w
theorem numIs_neg {w : World} {g : Nat} {a b c : Int} (c0 : w.cell? ⟨g, 0, none⟩ = some (.int .i64 a)) (c1 : w.cell? ⟨g, 1, none⟩ = some (.int .i64 b)) (c2 : w.cell? ⟨g, 2, none⟩ = some (.int .i64 c)) (ha : a < 0) :
    Calls Tryz.prog 183 #[.slice (some ⟨g, 0, none⟩) 3 3] w fun e w' => e = .returned (.bool false) ∧ w = w' := by
  go_enter Tryz.func183, Tryz.ntmps183
  go_wp2_with fail
  go_loopg [7] 1 (fun k iv wr => w = wr ∧ k = 1 ∧ iv = .int .i64 0)
  case atStart => exact ⟨rfl, rfl, rfl⟩
  case round =>
    obtain ⟨rfl, rfl, rfl⟩ := hrel
    go_wp2_with fail
    go_ret
    exact ⟨rfl, rfl⟩
theorem numStride_neg {a p c : Int} (ha : a < 0) (w : World) :
    Calls Tryz.prog 119 #[.int .i64 a, .int .i64 p, .int .i64 c] w fun e w' => e = .returned (.tuple #[.int .i64 0, .bool false]) ∧ Below w.heap.size w w' := by
  go_enter Tryz.func119, Tryz.ntmps119
  go_wp2_with (go_at_call 183; refine (numIs_neg (g := w.heap.size) (a := a) (b := p) (c := c) (cell_new _ _ _ 0 _ rfl) (cell_new _ _ _ 1 _ rfl) (cell_new _ _ _ 2 _ rfl) ha).mono ?_; rintro e w9 ⟨rfl, rfl⟩)
  go_ret2
  exact ⟨rfl, (Below.refl _ _).alloc (Nat.le_refl _) _⟩
theorem numStride_nil {a : Nat} (ha : a ≤ 4294967296) (w : World) :
    Calls Tryz.prog 119 #[.int .i64 (a : Int), .int .i64 0, .int .i64 8] w fun e w' => e = .returned (.tuple #[.int .i64 0, .bool false]) ∧ Below w.heap.size w w' := by
  have HA := Lib.hid ha
  clear ha
  go_enter Tryz.func119, Tryz.ntmps119
  go_wp2_with (go_at_call 183; refine (numIs_three (g := w.heap.size) (a := a) (b := 0) (c := 8) (cell_new _ _ _ 0 _ rfl) (cell_new _ _ _ 1 _ rfl) (cell_new _ _ _ 2 _ rfl) HA.out (by decide) (by decide)).mono ?_; rintro e w9 ⟨rfl, rfl⟩)
  go_ret2
  exact ⟨rfl, (Below.refl _ _).alloc (Nat.le_refl _) _⟩
theorem pcxStrideC {W : Int} {b z : Nat} (h1 : -65536 ≤ W) (h2 : W ≤ 65536) (hb : b < 256) (hz : pcxNeed W b = z) (w : World) :
    Calls Tryz.prog 119 #[.int .i64 W, .int .i64 (b : Int), .int .i64 8] w fun e w' => (∃ q, e = .returned (.tuple #[.int .i64 (z : Int), .bool q])) ∧ Below w.heap.size w w' := by
  unfold pcxNeed at hz
  by_cases h : W < 0
  · rw [if_pos h] at hz
    subst hz
    exact (numStride_neg h w).mono fun e w' h => ⟨⟨_, h.1⟩, h.2⟩
  · rw [if_neg h] at hz
    obtain ⟨a, rfl⟩ : ∃ a : Nat, W = (a : Int) := ⟨W.toNat, by omega⟩
    rw [Int.toNat_natCast] at hz
    by_cases h0 : b = 0
    · subst h0
      have e : z = 0 := by omega
      subst e
      exact (numStride_nil (by omega) w).mono fun e w' h => ⟨⟨_, h.1⟩, h.2⟩
    · have hp : a * b ≤ 65536 * 255 := Nat.mul_le_mul (by omega) (by omega)
      exact (numStride_8 (a := a) (p := b) (z := a * b) (y := z) (by omega) (by omega) (by omega) rfl (by omega) (by omega) w).mono fun e w' h => ⟨⟨_, h.1⟩, h.2⟩
theorem pcxNeedC {W : Int} {b z : Nat} (h1 : -65536 ≤ W) (h2 : W ≤ 65536) (hb : b < 256) (hz : pcxNeed W b = z) (w : World) :
    Calls Tryz.prog 128 #[.int .i64 W, .int .i64 (b : Int)] w fun e w' => e = .returned (.int .i64 (z : Int)) ∧ Below w.heap.size w w' := by
  have HS := Lib.hid (fun w => pcxStrideC h1 h2 hb hz w)
  clear h1 h2 hb hz
  go_enter Tryz.func128, Tryz.ntmps128
  go_wp2_with (go_at_call 119; refine (HS.out _).mono ?_; rintro e w1 ⟨⟨q, rfl⟩, b1⟩)
  go_ret
  exact ⟨rfl, b1⟩
theorem pcxNeed_lt {W : Int} {b z : Nat} (h2 : W ≤ 65536) (hb : b < 256) (hz : pcxNeed W b = z) : z ≤ 2088961 := by
  unfold pcxNeed at hz
  split at hz
  · omega
  · have hp : W.toNat * b ≤ 65536 * 255 := Nat.mul_le_mul (by omega) (by omega)
    omega
end Go.Proofs.YtccldalagbfmhaaGreat
