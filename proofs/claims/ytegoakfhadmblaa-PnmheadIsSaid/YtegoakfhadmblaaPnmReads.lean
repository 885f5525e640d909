/- The law PnmheadReads. -/
import Derived.Test.YtegoakfhadmblaaPnmAwake
import Derived.Test.YtegoakfhadmblaaPnmRef
import Derived.Deep.RegionHeld3
namespace Go.Proofs.Ytegoakfhadmblaa
open Go.RowKit
set_option linter.unusedVariables false
set_option linter.unusedSimpArgs false

theorem pread_bad {w : World} {p g : Nat} {s : ByteArray} {x : Led} {kd pl : Nat} (h : SrcAt w p g s 0 s.size 0) (hl : LedAt w g x) (hsm : s.size ≤ 1099511627776) (hx : x.reason = 0) (ok : x.Ok) (hs : x.steps + (3 * s.size + 20 : Nat) ≤ x.S) (hh : headAt (nats s) = hbad kd pl) (hk : kd ≠ 0) :
    Calls Try.prog 16 #[.pointer (some ⟨p, 0, none⟩)] w fun e w' => e = .returned (.tuple #[.agg #[.int .i64 0, .int .i64 0, .int .i64 0, .int .i64 0, .int .i64 0], .agg #[.int .i64 (kd : Int), .int .i64 3, .int .i64 (pl : Int)]]) ∧ Turn [p, g] w w' := by
  rcases pread_cases h hl hsm hx ok hs with ⟨kd2, pl2, e, _, _, _, hc⟩ | ⟨K, W, H, M, n, e, _, _, _, _, _, hc⟩
  · rw [hh] at e
    cases e
    exact hc
  · rw [hh] at e
    have := congrArg HeadR.Kind e
    exact absurd this hk
theorem pread_ok {w : World} {p g : Nat} {s : ByteArray} {x : Led} {K W H M n : Nat} (h : SrcAt w p g s 0 s.size 0) (hl : LedAt w g x) (hsm : s.size ≤ 1099511627776) (hx : x.reason = 0) (ok : x.Ok) (hs : x.steps + (3 * s.size + 20 : Nat) ≤ x.S) (hh : headAt (nats s) = ⟨K, W, H, M, n, 0, 0⟩) :
    Calls Try.prog 16 #[.pointer (some ⟨p, 0, none⟩)] w fun e w' => e = .returned (.tuple #[.agg #[.int .i64 (K : Int), .int .i64 (W : Int), .int .i64 (H : Int), .int .i64 (M : Int), .int .i64 (n : Int)], .agg #[.int .i64 0, .int .i64 0, .int .i64 0]]) ∧ SrcAt w' p g s 0 s.size n ∧ Turn [p, g] w w' := by
  rcases pread_cases h hl hsm hx ok hs with ⟨kd2, pl2, e, k0, _, _, hc⟩ | ⟨K2, W2, H2, M2, n2, e, _, _, _, _, _, hc⟩
  · rw [hh] at e
    have := congrArg HeadR.Kind e
    exact absurd this.symm k0
  · rw [hh] at e
    cases e
    exact hc

set_option maxRecDepth 100000 in
set_option maxHeartbeats 2000000 in
theorem pnmheadReads_said (w : World) (s : ByteArray) (hs : s.size ≤ maxLen) :
    Calls Try.prog 3 #[.string s] w fun e w' => e = .returned (.bool true) ∧ Below w.heap.size w w' := by
  by_cases hlen : s.size ≤ 300
  · have i1 : ¬ (300 : Int) < (s.size : Int) := by omega
    have hgood := headAt_good (nats s)
    rw [nats_len] at hgood
    have hst : T12.steps + (3 * s.size + 20 : Nat) ≤ T12.S := by show (0 : Int) + (3 * s.size + 20 : Nat) ≤ 10000; omega
    have HST := Lib.hid hst
    have hR := fun w => refHead_any s w (by omega)
    clear hst
    rcases hgood with ⟨kd, pl, hh, hk0, hk4, hpl⟩ | ⟨K, W, H, M, n, hh, hK, hW, hH, hM, hn⟩
    · have HH := Lib.hid hh
      rw [hh] at hR
      have HR : Hid (∀ w : World, Calls Try.prog 17 #[.string s] w fun e w' => e = .returned (.agg #[.int .i64 0, .int .i64 0, .int .i64 0, .int .i64 0, .int .i64 0, .int .i64 (kd : Int), .int .i64 (pl : Int)]) ∧ Below w.heap.size w w') := Lib.hid hR
      have j0 : ¬ (kd : Int) = 0 := by omega
      clear hR hh
      go_enter Try.func3, Try.ntmps3
      go_wp2_with (first
        | (go_at_call 15; refine (ledNew_at T12_new _).mono ?_; rintro e w0 ⟨g, rfl, hgB, h0, b0⟩)
        | (go_at_call 14; refine (srcNew_any g s _).mono ?_; rintro e w1 ⟨p, rfl, hp, h1, b1⟩; have l1 := Blk.below h0 b1 (Blk.lt h0); have bb1 := below_next b0 b1)
        | (go_at_call 16; refine (pread_bad h1 l1 (by omega) rfl T12.ok HST.out HH.out hk0).mono ?_; rintro e w2 ⟨rfl, t2⟩)
        | (go_at_call 17; refine (HR.out _).mono ?_; rintro e w3 ⟨rfl, b3⟩; have bh : Blk w3 w2.heap.size 32 (hd 0 0 0 0 0) := Blk.below (Blk.alloc (Blk.new w2 _ _) _) b3 (by simp; omega); have bf : FL w3 (w2.heap.size + 1) (kd : Int) 3 (pl : Int) := Blk.below (Blk.new_at (w2.alloc _) _ _ (by simp)) b3 (by simp); have r0 : w3.cell? ⟨w2.heap.size, 0, none⟩ = some (.int .i64 0) := Blk.cell bh 0; have r1 : w3.cell? ⟨w2.heap.size, 1, none⟩ = some (.int .i64 0) := Blk.cell bh 1; have r2 : w3.cell? ⟨w2.heap.size, 2, none⟩ = some (.int .i64 0) := Blk.cell bh 2; have r3 : w3.cell? ⟨w2.heap.size, 3, none⟩ = some (.int .i64 0) := Blk.cell bh 3; have r4 : w3.cell? ⟨w2.heap.size, 4, none⟩ = some (.int .i64 0) := Blk.cell bh 4; have e0 := FL.c0 bf; have e1 := FL.c1 bf; have e2 := FL.c2 bf; have l9 := Blk.lt bf; have l8 := Blk.lt bh; have n8 := Nat.ne_of_lt l8; have n9 := Nat.ne_of_lt l9)
        | (go_at_call 13; refine (awake12_any _).mono ?_; rintro e w5 ⟨rfl, b5⟩))
      go_ret
      have hz0 := b0.size
      have z2 := Turn.belowNext bb1 t2 (by simp; omega) bb1.size
      have z3 := below_next ((z2.alloc z2.size (.cells #[.int .i64 0, .int .i64 0, .int .i64 0, .int .i64 0, .int .i64 0] 32)).alloc (by have := z2.size; simp; omega) _) b3
      exact ⟨rfl, below_next (z3.alloc z3.size _) b5⟩
    · have HH := Lib.hid hh
      rw [hh] at hR
      have HR : Hid (∀ w : World, Calls Try.prog 17 #[.string s] w fun e w' => e = .returned (.agg #[.int .i64 (K : Int), .int .i64 (W : Int), .int .i64 (H : Int), .int .i64 (M : Int), .int .i64 (n : Int), .int .i64 0, .int .i64 0]) ∧ Below w.heap.size w w') := Lib.hid hR
      clear hR hh
      go_enter Try.func3, Try.ntmps3
      go_wp2_with (first
        | (go_at_call 15; refine (ledNew_at T12_new _).mono ?_; rintro e w0 ⟨g, rfl, hgB, h0, b0⟩)
        | (go_at_call 14; refine (srcNew_any g s _).mono ?_; rintro e w1 ⟨p, rfl, hp, h1, b1⟩; have l1 := Blk.below h0 b1 (Blk.lt h0); have bb1 := below_next b0 b1)
        | (go_at_call 16; refine (pread_ok h1 l1 (by omega) rfl T12.ok HST.out HH.out).mono ?_; rintro e w2 ⟨rfl, s2, t2⟩)
        | (go_at_call 17; refine (HR.out _).mono ?_; rintro e w3 ⟨rfl, b3⟩; have bh : Blk w3 w2.heap.size 32 (hd K W H M n) := Blk.below (Blk.alloc (Blk.new w2 _ _) _) b3 (by simp; omega); have bf : FL w3 (w2.heap.size + 1) 0 0 0 := Blk.below (Blk.new_at (w2.alloc _) _ _ (by simp)) b3 (by simp); have r0 : w3.cell? ⟨w2.heap.size, 0, none⟩ = some (.int .i64 (K : Int)) := Blk.cell bh 0; have r1 : w3.cell? ⟨w2.heap.size, 1, none⟩ = some (.int .i64 (W : Int)) := Blk.cell bh 1; have r2 : w3.cell? ⟨w2.heap.size, 2, none⟩ = some (.int .i64 (H : Int)) := Blk.cell bh 2; have r3 : w3.cell? ⟨w2.heap.size, 3, none⟩ = some (.int .i64 (M : Int)) := Blk.cell bh 3; have r4 : w3.cell? ⟨w2.heap.size, 4, none⟩ = some (.int .i64 (n : Int)) := Blk.cell bh 4; have e0 := FL.c0 bf; have e1 := FL.c1 bf; have e2 := FL.c2 bf; have l9 := Blk.lt bf; have l8 := Blk.lt bh; have n8 := Nat.ne_of_lt l8; have n9 := Nat.ne_of_lt l9; have s3 : SrcAt (w3.alloc (.cells #[.int .i64 (K : Int), .int .i64 (W : Int), .int .i64 (H : Int), .int .i64 (M : Int), .int .i64 (n : Int), .int .i64 0, .int .i64 0] 38)) p g s 0 s.size n := (Blk.below ((Blk.alloc s2 _).alloc _) b3 (Blk.lt ((Blk.alloc s2 _).alloc _))).alloc _))
      have c0 : (w3.alloc (.cells #[.int .i64 (K : Int), .int .i64 (W : Int), .int .i64 (H : Int), .int .i64 (M : Int), .int .i64 (n : Int), .int .i64 0, .int .i64 0] 38)).cell? ⟨w2.heap.size, 0, none⟩ = some (.int .i64 (K : Int)) := Blk.cell (Blk.alloc bh _) 0
      have c1 : (w3.alloc (.cells #[.int .i64 (K : Int), .int .i64 (W : Int), .int .i64 (H : Int), .int .i64 (M : Int), .int .i64 (n : Int), .int .i64 0, .int .i64 0] 38)).cell? ⟨w2.heap.size, 1, none⟩ = some (.int .i64 (W : Int)) := Blk.cell (Blk.alloc bh _) 1
      have c2 : (w3.alloc (.cells #[.int .i64 (K : Int), .int .i64 (W : Int), .int .i64 (H : Int), .int .i64 (M : Int), .int .i64 (n : Int), .int .i64 0, .int .i64 0] 38)).cell? ⟨w2.heap.size, 2, none⟩ = some (.int .i64 (H : Int)) := Blk.cell (Blk.alloc bh _) 2
      have c3 : (w3.alloc (.cells #[.int .i64 (K : Int), .int .i64 (W : Int), .int .i64 (H : Int), .int .i64 (M : Int), .int .i64 (n : Int), .int .i64 0, .int .i64 0] 38)).cell? ⟨w2.heap.size, 3, none⟩ = some (.int .i64 (M : Int)) := Blk.cell (Blk.alloc bh _) 3
      have c4 : (w3.alloc (.cells #[.int .i64 (K : Int), .int .i64 (W : Int), .int .i64 (H : Int), .int .i64 (M : Int), .int .i64 (n : Int), .int .i64 0, .int .i64 0] 38)).cell? ⟨w2.heap.size, 4, none⟩ = some (.int .i64 (n : Int)) := Blk.cell (Blk.alloc bh _) 4
      have d0 : (w3.alloc (.cells #[.int .i64 (K : Int), .int .i64 (W : Int), .int .i64 (H : Int), .int .i64 (M : Int), .int .i64 (n : Int), .int .i64 0, .int .i64 0] 38)).cell? ⟨w2.heap.size + 1, 0, none⟩ = some (.int .i64 0) := Blk.cell (Blk.alloc bf _) 0
      have d1 : (w3.alloc (.cells #[.int .i64 (K : Int), .int .i64 (W : Int), .int .i64 (H : Int), .int .i64 (M : Int), .int .i64 (n : Int), .int .i64 0, .int .i64 0] 38)).cell? ⟨w2.heap.size + 1, 1, none⟩ = some (.int .i64 0) := Blk.cell (Blk.alloc bf _) 1
      have d2 : (w3.alloc (.cells #[.int .i64 (K : Int), .int .i64 (W : Int), .int .i64 (H : Int), .int .i64 (M : Int), .int .i64 (n : Int), .int .i64 0, .int .i64 0] 38)).cell? ⟨w2.heap.size + 1, 2, none⟩ = some (.int .i64 0) := Blk.cell (Blk.alloc bf _) 2
      have g0 : (w3.alloc (.cells #[.int .i64 (K : Int), .int .i64 (W : Int), .int .i64 (H : Int), .int .i64 (M : Int), .int .i64 (n : Int), .int .i64 0, .int .i64 0] 38)).cell? ⟨w3.heap.size, 0, none⟩ = some (.int .i64 (K : Int)) := Blk.cell (Blk.new w3 _ _) 0
      have g1 : (w3.alloc (.cells #[.int .i64 (K : Int), .int .i64 (W : Int), .int .i64 (H : Int), .int .i64 (M : Int), .int .i64 (n : Int), .int .i64 0, .int .i64 0] 38)).cell? ⟨w3.heap.size, 1, none⟩ = some (.int .i64 (W : Int)) := Blk.cell (Blk.new w3 _ _) 1
      have g2 : (w3.alloc (.cells #[.int .i64 (K : Int), .int .i64 (W : Int), .int .i64 (H : Int), .int .i64 (M : Int), .int .i64 (n : Int), .int .i64 0, .int .i64 0] 38)).cell? ⟨w3.heap.size, 2, none⟩ = some (.int .i64 (H : Int)) := Blk.cell (Blk.new w3 _ _) 2
      have g3 : (w3.alloc (.cells #[.int .i64 (K : Int), .int .i64 (W : Int), .int .i64 (H : Int), .int .i64 (M : Int), .int .i64 (n : Int), .int .i64 0, .int .i64 0] 38)).cell? ⟨w3.heap.size, 3, none⟩ = some (.int .i64 (M : Int)) := Blk.cell (Blk.new w3 _ _) 3
      have g4 : (w3.alloc (.cells #[.int .i64 (K : Int), .int .i64 (W : Int), .int .i64 (H : Int), .int .i64 (M : Int), .int .i64 (n : Int), .int .i64 0, .int .i64 0] 38)).cell? ⟨w3.heap.size, 4, none⟩ = some (.int .i64 (n : Int)) := Blk.cell (Blk.new w3 _ _) 4
      have hz0 := b0.size
      have z2 := Turn.belowNext bb1 t2 (by simp; omega) bb1.size
      have z3 := below_next ((z2.alloc z2.size (.cells #[.int .i64 (K : Int), .int .i64 (W : Int), .int .i64 (H : Int), .int .i64 (M : Int), .int .i64 (n : Int)] 32)).alloc (by have := z2.size; simp; omega) _) b3
      have bq : Below w.heap.size w (w3.alloc (.cells #[.int .i64 (K : Int), .int .i64 (W : Int), .int .i64 (H : Int), .int .i64 (M : Int), .int .i64 (n : Int), .int .i64 0, .int .i64 0] 38)) := z3.alloc z3.size _
      have lq : w3.heap.size < (w3.alloc (.cells #[.int .i64 (K : Int), .int .i64 (W : Int), .int .i64 (H : Int), .int .i64 (M : Int), .int .i64 (n : Int), .int .i64 0, .int .i64 0] 38)).heap.size := by simp
      clear r0 r1 r2 r3 r4 e0 e1 e2 n8 n9 bh bf z2 z3 b3
      change Code.wp _ _ _ _ (w3.alloc (.cells #[.int .i64 (K : Int), .int .i64 (W : Int), .int .i64 (H : Int), .int .i64 (M : Int), .int .i64 (n : Int), .int .i64 0, .int .i64 0] 38))
      generalize hwq : (w3.alloc (.cells #[.int .i64 (K : Int), .int .i64 (W : Int), .int .i64 (H : Int), .int .i64 (M : Int), .int .i64 (n : Int), .int .i64 0, .int .i64 0] 38)) = wq at c0 c1 c2 c3 c4 d0 d1 d2 g0 g1 g2 g3 g4 s3 bq lq ⊢
      clear hwq
      go_region_held3 (fun w' => w'.cell? ⟨w2.heap.size, 0, none⟩ = some (.int .i64 (K : Int)) ∧ w'.cell? ⟨w2.heap.size, 1, none⟩ = some (.int .i64 (W : Int)) ∧ w'.cell? ⟨w2.heap.size, 2, none⟩ = some (.int .i64 (H : Int)) ∧ w'.cell? ⟨w2.heap.size, 3, none⟩ = some (.int .i64 (M : Int)) ∧ w'.cell? ⟨w2.heap.size, 4, none⟩ = some (.int .i64 (n : Int)) ∧ w'.cell? ⟨w2.heap.size + 1, 0, none⟩ = some (.int .i64 0) ∧ w'.cell? ⟨w2.heap.size + 1, 1, none⟩ = some (.int .i64 0) ∧ w'.cell? ⟨w2.heap.size + 1, 2, none⟩ = some (.int .i64 0) ∧ w'.cell? ⟨w3.heap.size, 0, none⟩ = some (.int .i64 (K : Int)) ∧ w'.cell? ⟨w3.heap.size, 1, none⟩ = some (.int .i64 (W : Int)) ∧ w'.cell? ⟨w3.heap.size, 2, none⟩ = some (.int .i64 (H : Int)) ∧ w'.cell? ⟨w3.heap.size, 3, none⟩ = some (.int .i64 (M : Int)) ∧ w'.cell? ⟨w3.heap.size, 4, none⟩ = some (.int .i64 (n : Int)) ∧ SrcAt w' p g s 0 s.size n)
        (first | exact ⟨c0, c1, c2, c3, c4, d0, d1, d2, g0, g1, g2, g3, g4, s3⟩ | go_keep | (go_split_ands; refine ⟨?_, ?_, ?_, ?_, ?_, ?_, ?_, ?_, ?_, ?_, ?_, ?_, ?_, Blk.below (by assumption) hb5 (Blk.lt (by assumption))⟩ <;> (rw [hc5 _ _ (by first | omega | (simp; omega))]; assumption)))
        (first | (go_at_call 18; refine (srcAt_at (p := p) (g := g) (s := s) (f := 0) (t := s.size) (a := n) (by assumption)).mono ?_; rintro e w9 ⟨rfl, rfl⟩) | (go_at_call 13; refine (awake12_any _).mono ?_; rintro e w5 ⟨rfl, hb5⟩; obtain ⟨hc5, hf5⟩ := bcell hb5))
      go_wp2_with fail
      go_ret
      exact ⟨rfl, below_next bq (show Below wq.heap.size wq w5 from ⟨hb5.os, hb5.tape, hb5.output, hb5.size, hb5.block⟩)⟩
  · have i1 : (300 : Int) < (s.size : Int) := by omega
    go_enter Try.func3, Try.ntmps3
    go_wp2_with (go_at_call 13; refine (awake12_any _).mono ?_; rintro e w5 ⟨rfl, b5⟩)
    go_ret
    exact ⟨rfl, b5⟩
end Go.Proofs.Ytegoakfhadmblaa
