/- The walk of LedgerRoom. -/
import Derived.Test.YtahiaamjophneaaLedWalk
import Derived.Test.YtahiaamjophneaaOpenInts
namespace Go.Proofs.Ytahiaamjophneaa
open Go.RowKit
set_option linter.unusedVariables false

def LR (M n p : Int) : Led := ⟨0, 0, M, 0, n, p, 0, 0, 0⟩
theorem LR.ok {M n p : Int} (h0 : 0 ≤ n) (h1 : n ≤ p) (h2 : p ≤ M) (h3 : M ≤ 65535) : (LR M n p).Ok := by constructor <;> simp only [LR] <;> omega
theorem lr0 {M : Int} (h : 0 ≤ M) : Led.new 0 0 M 0 = LR M 0 0 := by simp [Led.new, LR, nought]; omega
theorem lr1 {M n p q : Int} (h0 : 0 ≤ n) (h : n ≤ M) (hq : q = if p < n then n else p) : (LR M 0 p).take n = (LR M n q, true) := by
  subst hq
  unfold Led.take LR
  simp only [ne_eq, not_true_eq_false, if_false, Int.sub_zero, Int.zero_add]
  rw [if_neg (by omega)]
theorem lr2 {M n p : Int} (h0 : 0 ≤ n) : (LR M n p).give n = (LR M 0 p, true) := by
  unfold Led.give LR
  simp only [Int.sub_self]
  rw [if_neg (by omega)]
theorem lr3 {M p : Int} : (LR M 0 p).give 1 = (LR M 0 p, false) := rfl
theorem lr4 {M n p : Int} : (LR M n p).peak = p := rfl
theorem lr5 {M n p : Int} : (LR M n p).bytes = n := rfl
theorem lr6 {M n p : Int} : decide ((LR M n p).reason ≠ 0) = false := rfl

set_option maxRecDepth 100000 in
set_option maxHeartbeats 1000000 in
theorem room_walk (w : World) (M : Int) (hM : 0 ≤ M ∧ M ≤ 65535) (A : Option Addr) (n cap : Nat) (l : List Int) (hn : n ≤ 100) (hl : SliceInts .u8 w A n l) :
    Calls Try.prog 14 #[.int .u16 M, .slice A n cap] w fun e w' => e = .returned (.bool true) ∧ Below w.heap.size w w' := by
  obtain ⟨m0, m1⟩ := hM
  have hlen : ¬ (100 : Int) < (n : Int) := by omega
  have HL := Lib.hid hl
  clear hl
  go_enter Try.func14, Try.ntmps14
  go_wp2_with (go_at_call 50; refine (ledNew_at (lr0 m0) _).mono ?_; rintro e w0 ⟨g, rfl, hgB, h0, b0⟩)
  have B0 := Lib.hid b0
  have H0 := Lib.hid h0
  clear b0 h0
  go_loopg [6, 28] n (fun k pk i wr => ∃ (q : Nat) (p : Int), q + k = n ∧ i = .int .i64 q ∧ pk = .int .i64 p ∧ 0 ≤ p ∧ p ≤ M ∧ LedAt wr g (LR M 0 p) ∧ Below w.heap.size w wr)
  case atStart => exact ⟨0, 0, by omega, rfl, rfl, Int.le_refl _, m0, H0.out, B0.out⟩
  case round =>
    obtain ⟨q, p, hq, rfl, rfl, p0, p1, h0, b0⟩ := hrel
    by_cases hlt : q < n
    · obtain rfl | ⟨b, off, rfl, hmax, hll, hcell⟩ := HL.out
      · omega
      obtain ⟨hwf, hc⟩ := hcell q hlt
      obtain ⟨z0, z1⟩ := bounds_u8 hwf
      have hbB : b < w.heap.size := World.block_lt_of_cell? w _ hc
      have x0 := (b0.cell (p := ⟨b, off + q, none⟩) hbB).trans hc
      have hltI : (q : Int) < n := by omega
      clear hcell hc hwf
      generalize l.getD q 0 = z at z0 z1 x0
      have h0' := Lib.hid h0
      have b0' := Lib.hid b0
      clear h0 b0
      by_cases hz : M < z
      · go_wp2_with fail
        go_roundg (n - (q + 1))
        case measure => omega
        case rel => exact ⟨q + 1, p, by omega, by go_num, rfl, p0, p1, h0'.out, b0'.out⟩
      · by_cases hp : p < z
        · have e1 := Lib.hid (lr1 (M := M) (p := p) z0 (by omega) (if_pos hp).symm)
          go_wp2_with (first
            | (go_at_call 53; refine (give_at h2 (LR.ok (M := M) (Int.le_refl 0) z0 (by omega) m1) lr3).mono ?_; rintro e w3 ⟨rfl, h3, b3⟩)
            | (go_at_call 53; refine (give_at h1 (LR.ok (M := M) z0 (Int.le_refl _) (by omega) m1) (lr2 z0)).mono ?_; rintro e w2 ⟨rfl, h2, b2⟩)
            | (go_at_call 52; refine (take_at h0'.out (LR.ok (Int.le_refl 0) p0 p1 m1) e1.out).mono ?_; rintro e w1 ⟨rfl, h1, b1⟩))
          go_roundg (n - (q + 1))
          case measure => omega
          case rel => exact ⟨q + 1, z, by omega, by go_num, rfl, z0, by omega, h3, below_step (below_step (below_step b0'.out b1 hgB) b2 hgB) b3 hgB⟩
        · have e1 := Lib.hid (lr1 (M := M) (p := p) z0 (by omega) (if_neg hp).symm)
          go_wp2_with (first
            | (go_at_call 53; refine (give_at h2 (LR.ok (M := M) (Int.le_refl 0) p0 p1 m1) lr3).mono ?_; rintro e w3 ⟨rfl, h3, b3⟩)
            | (go_at_call 53; refine (give_at h1 (LR.ok (M := M) z0 (by omega) p1 m1) (lr2 z0)).mono ?_; rintro e w2 ⟨rfl, h2, b2⟩)
            | (go_at_call 52; refine (take_at h0'.out (LR.ok (Int.le_refl 0) p0 p1 m1) e1.out).mono ?_; rintro e w1 ⟨rfl, h1, b1⟩))
          go_roundg (n - (q + 1))
          case measure => omega
          case rel => exact ⟨q + 1, p, by omega, by go_num, rfl, p0, p1, h3, below_step (below_step (below_step b0'.out b1 hgB) b2 hgB) b3 hgB⟩
    · obtain rfl : q = n := by omega
      have h0' := Lib.hid h0
      have b0' := Lib.hid b0
      clear h0 b0
      go_wp2_with (first
        | (go_at_call 54; refine (peak_at h0'.out lr4).mono ?_; rintro e w1 ⟨rfl, rfl⟩)
        | (go_at_call 55; refine (bytes_at h0'.out lr5).mono ?_; rintro e w1 ⟨rfl, rfl⟩)
        | (go_at_call 56; refine (broken_at h0'.out lr6).mono ?_; rintro e w1 ⟨rfl, rfl⟩)
        | (go_at_call 51; refine (awake_any _).mono ?_; rintro e w1 ⟨rfl, ba⟩))
      go_ret
      exact ⟨rfl, below_next b0'.out ba⟩

set_option maxRecDepth 100000 in
theorem room_long (w : World) (M : Int) (hM : 0 ≤ M ∧ M ≤ 65535) (A : Option Addr) (n cap : Nat) (hn : 100 < n) :
    Calls Try.prog 14 #[.int .u16 M, .slice A n cap] w fun e w' => e = .returned (.bool true) ∧ Below w.heap.size w w' := by
  obtain ⟨m0, m1⟩ := hM
  have hlen : (100 : Int) < (n : Int) := by omega
  go_enter Try.func14, Try.ntmps14
  go_wp2_with (first
    | (go_at_call 50; refine (ledNew_at (lr0 m0) _).mono ?_; rintro e w0 ⟨g, rfl, hgB, h0, b0⟩)
    | (go_at_call 51; refine (awake_any _).mono ?_; rintro e w1 ⟨rfl, ba⟩))
  go_ret
  exact ⟨rfl, below_next b0 ba⟩

theorem ledgerRoom_said (w : World) (M : Int) (hM : (Lit.int .u16 M).wf = true) (A : Option Addr) (n cap : Nat) (l : List Int) (hl : SliceInts .u8 w A n l) :
    Calls Try.prog 14 #[.int .u16 M, .slice A n cap] w fun e w' => e = .returned (.bool true) ∧ Below w.heap.size w w' := by
  by_cases hn : n ≤ 100
  · exact room_walk w M (bounds_u16 hM) A n cap l hn hl
  · exact room_long w M (bounds_u16 hM) A n cap (by omega)
end Go.Proofs.Ytahiaamjophneaa
