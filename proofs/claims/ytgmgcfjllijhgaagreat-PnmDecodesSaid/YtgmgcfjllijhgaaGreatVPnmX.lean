/- The law PnmDecodes. -/
import Derived.Test.YtgmgcfjllijhgaaGreatSq
import Derived.Test.YtgmgcfjllijhgaaGreatVPnmDw
import Derived.Deep.CutRange
namespace Go.Proofs.YtgmgcfjllijhgaaGreat
open Go.RowKit
set_option linter.unusedVariables false
set_option linter.unusedSimpArgs false

/-- what the law's last line reads -/
def LawS (w : World) (qf qm qr : Nat) (W H : Int) (a : Option Addr) (n c : Nat) (v : Value) : Prop := w.cell? ⟨qf, 0, none⟩ = some (.int .i64 0) ∧ w.cell? ⟨qf, 1, none⟩ = some (.int .i64 0) ∧ w.cell? ⟨qf, 2, none⟩ = some (.int .i64 0) ∧ w.cell? ⟨qm, 0, none⟩ = some (.int .i64 W) ∧ w.cell? ⟨qm, 1, none⟩ = some (.int .i64 H) ∧ w.cell? ⟨qm, 2, none⟩ = some (.slice a n c) ∧
 w.cell? ⟨qr, 0, none⟩ = some (.int .i64 W) ∧ w.cell? ⟨qr, 1, none⟩ = some (.int .i64 H) ∧ w.cell? ⟨qr, 2, none⟩ = some v ∧ w.cell? ⟨qr, 3, none⟩ = some (.int .i64 0) ∧ w.cell? ⟨qr, 4, none⟩ = some (.int .i64 0)
theorem LawS.of {w : World} {qf qm qr : Nat} {W H : Int} {a : Option Addr} {n c : Nat} {v : Value} (F : FB w qf 0 0 0) (I : IB w qm W H a n c) (R : RI w qr W H v 0 0) : LawS w qf qm qr W H a n c v :=
 ⟨Blk.cell F 0, Blk.cell F 1, Blk.cell F 2, Blk.cell I 0, Blk.cell I 1, Blk.cell I 2, Blk.cell R 0, Blk.cell R 1, Blk.cell R 2, Blk.cell R 3, Blk.cell R 4⟩
set_option maxRecDepth 100000 in
set_option maxHeartbeats 4000000 in
theorem pnmDecodes_bad {s : ByteArray} {k a : Nat} (hs : s.size ≤ 600) (hk : k ≠ 0) (u : ∃ W H, pnmSides s = (W, H) ∧ W ≤ 100 ∧ H ≤ 100) (t : (pnmDec s).told = .bad k a) (w : World) :
  Calls Tryz.prog 6 #[.string s] w fun e w' => e = .returned (.bool true) ∧ Below w.heap.size w w' := by
 obtain ⟨W, H, u', hW, hH⟩ := u
 have hsI : ¬ (600 : Int) < (s.size : Int) := by omega
 have hWI : ¬ (100 : Int) < (W : Int) := by omega
 have hHI : ¬ (100 : Int) < (H : Int) := by omega
 have hkI : ¬ (k : Int) = 0 := by omega
 have hsm : s.size ≤ 1099511627776 := by omega
 have HR0 := fun w => refPnmSides hsm w
 have HN0 := fun w => pnmRunW hs (by rw [u']; exact hW) (by rw [u']; exact hH) w
 have HD0 := fun w => refPnmDecode (s := s) (by omega) w
 rw [u'] at HR0
 rw [t] at HN0 HD0
 have HR := Lib.hid HR0
 have HN := Lib.hid HN0
 have HD := Lib.hid HD0
 clear HR0 HN0 HD0 u' hW hH t hs hk hsm
 go_enter Tryz.func6, Tryz.ntmps6
 go_wp2_with (first
  | (go_at_call 20; refine (HR.out _).mono ?_; rintro e w1 ⟨rfl, b1⟩)
  | (go_at_call 22; refine (wide15 _).mono ?_; rintro e w2 ⟨rfl, b2⟩)
  | (go_at_call 21; refine (HN.out _).mono ?_; rintro e w3 ⟨g, y, l3, hy, b3, hor⟩; obtain ⟨k', a', _, hr, rfl⟩ : ∃ k' a' : Nat, k' ≠ 0 ∧ DRes.bad k a = .bad k' a' ∧ e = .returned (.tuple #[.agg #[.int .i64 0, .int .i64 0, .slice none 0 0], .agg #[.int .i64 (k' : Int), .int .i64 3, .int .i64 (a' : Int)], .pointer (some ⟨g, 0, none⟩)]) := hor.elim id (fun ⟨_, _, _, _, h, _⟩ => by cases h); obtain ⟨rfl, rfl⟩ := DRes.bad_inj hr))
 have hy0 : y.bytes = 0 := hy
 have B3 := below_next (below_next b1 b2) b3
 have I4 : IB ((w3.alloc (.cells #[.int .i64 0, .int .i64 0, .slice none 0 0] 32)).alloc (.cells #[.int .i64 (k : Int), .int .i64 3, .int .i64 (a : Int)] 34)) w3.heap.size 0 0 none 0 0 := Blk.alloc (Blk.new _ _ _) _
 have F4 : FB ((w3.alloc (.cells #[.int .i64 0, .int .i64 0, .slice none 0 0] 32)).alloc (.cells #[.int .i64 (k : Int), .int .i64 3, .int .i64 (a : Int)] 34)) (w3.heap.size + 1) (k : Int) 3 (a : Int) := Blk.new_at _ _ _ (by simp)
 have L4 : LedAt ((w3.alloc (.cells #[.int .i64 0, .int .i64 0, .slice none 0 0] 32)).alloc (.cells #[.int .i64 (k : Int), .int .i64 3, .int .i64 (a : Int)] 34)) g y := Blk.alloc (Blk.alloc l3 _) _
 have B4 : Below w.heap.size w ((w3.alloc (.cells #[.int .i64 0, .int .i64 0, .slice none 0 0] 32)).alloc (.cells #[.int .i64 (k : Int), .int .i64 3, .int .i64 (a : Int)] 34)) := (B3.alloc B3.size _).alloc (by have := B3.size; simp; omega) _
 generalize (w3.alloc (.cells #[.int .i64 0, .int .i64 0, .slice none 0 0] 32)).alloc (.cells #[.int .i64 (k : Int), .int .i64 3, .int .i64 (a : Int)] 34) = w4 at I4 F4 L4 B4 ⊢
 generalize w3.heap.size + 1 = qf at F4 ⊢
 generalize w3.heap.size = qm at I4 ⊢
 clear b1 b2 b3 B3 l3 hor
 refine (HD.out _).mono ?_
 rintro e w5 ⟨b5, rfl⟩
 have b6 : Below w5.heap.size w5 (w5.alloc (.cells #[.int .i64 0, .int .i64 0, .slice none 0 0, .int .i64 (k : Int), .int .i64 (a : Int)] 28)) := (Below.refl _ _).alloc (Nat.le_refl _) _
 have R6 : RI (w5.alloc (.cells #[.int .i64 0, .int .i64 0, .slice none 0 0, .int .i64 (k : Int), .int .i64 (a : Int)] 28)) w5.heap.size 0 0 (.slice none 0 0) (k : Int) (a : Int) := Blk.new _ _ _
 have F6 : FB (w5.alloc (.cells #[.int .i64 0, .int .i64 0, .slice none 0 0, .int .i64 (k : Int), .int .i64 (a : Int)] 28)) qf (k : Int) 3 (a : Int) := Blk.alloc (FB.below F4 b5) _
 have L6 : LedAt (w5.alloc (.cells #[.int .i64 0, .int .i64 0, .slice none 0 0, .int .i64 (k : Int), .int .i64 (a : Int)] 28)) g y := Blk.alloc (Blk.below L4 b5 (Blk.lt L4)) _
 have B6 := below_next (below_next B4 b5) b6
 go_upto_region 8 with fail
 generalize w5.alloc (.cells #[.int .i64 0, .int .i64 0, .slice none 0 0, .int .i64 (k : Int), .int .i64 (a : Int)] 28) = w6 at R6 F6 L6 B6 ⊢
 generalize w5.heap.size = qr at R6 ⊢
 clear b5 b6 I4 F4 L4 B4
 have F7 := F6
 have R7 : RI w6 qr 0 0 (.slice none 0 0) (k : Int) (a : Int) := R6
 have L7 : LedAt w6 g y := L6
 have B7 := B6
 obtain ⟨c0, c1, c2, z0, z1, z2, fl⟩ := FB.all F7
 obtain ⟨d0, d1, d2, d3, d4, y0, y1, y2, y3, y4, dl⟩ := RI.all R7
 go_wp2_with (first
  | (go_at_call 25; refine (bytes_at L7 hy0).mono ?_; rintro e w9 ⟨rfl, rfl⟩)
  | (go_at_call 19; refine (awake15_any _).mono ?_; rintro e w10 ⟨rfl, b10⟩))
 go_ret
 exact ⟨rfl, below_next B7 b10⟩
set_option maxRecDepth 100000 in
set_option maxHeartbeats 40000000 in
theorem pnmDecodes_img {s : ByteArray} {W H : Nat} {l : List UInt8} (hs : s.size ≤ 600) (u : pnmSides s = (W, H)) (hW : 1 ≤ W ∧ W ≤ 100) (hH : 1 ≤ H ∧ H ≤ 100) (t : (pnmDec s).told = .img W H l) (w : World) :
  Calls Tryz.prog 6 #[.string s] w fun e w' => e = .returned (.bool true) ∧ Below w.heap.size w w' := by
 have hsI : ¬ (600 : Int) < (s.size : Int) := by omega
 have hWI : ¬ (100 : Int) < (W : Int) := by omega
 have hHI : ¬ (100 : Int) < (H : Int) := by omega
 have hsm : s.size ≤ 1099511627776 := by omega
 have hNN : W * H ≤ 100 * 100 := Nat.mul_le_mul hW.2 hH.2
 have hN1 : 1 ≤ W * H := Nat.mul_le_mul hW.1 hH.1
 obtain ⟨N, hN⟩ : ∃ N, W * H = N := ⟨_, rfl⟩
 have hl := told_img _ 0 (pnmDec_bal s) t
 have hZI : IntKind.i64.wrap (IntKind.i64.wrap (4 * (W : Int)) * (H : Int)) = ((4 * N : Nat) : Int) := by
  rw [IntWalk.i64_in (4 * (W : Int)) (by omega), show 4 * (W : Int) = ((4 * W : Nat) : Int) by omega]
  exact prod3_in (m := 4 * W) (s := H) (p := 4 * N) (by rw [Nat.mul_assoc, hN]) (by omega)
 obtain ⟨z, hz⟩ : ∃ z, 4 * N = z := ⟨_, rfl⟩
 rw [hz] at hZI
 have HR0 := fun w => refPnmSides hsm w
 have HN0 := fun w => pnmRunW hs (by rw [u]; exact hW.2) (by rw [u]; exact hH.2) w
 have HD0 := fun w => refPnmDecode (s := s) (by omega) w
 rw [u] at HR0
 rw [t] at HN0 HD0
 have HR := Lib.hid HR0
 have HN := Lib.hid HN0
 have HD := Lib.hid HD0
 have HNE := Lib.hid hN
 have HZ := Lib.hid hz
 have HL := Lib.hid hl
 have HN1 := Lib.hid hN1
 have HNN := Lib.hid hNN
 clear HR0 HN0 HD0 u t hs hsm hW hH hl hNN hN1 hN hz
 go_enter Tryz.func6, Tryz.ntmps6
 go_wp2_with (first
  | (go_at_call 20; refine (HR.out _).mono ?_; rintro e w1 ⟨rfl, b1⟩)
  | (go_at_call 22; refine (wide15 _).mono ?_; rintro e w2 ⟨rfl, b2⟩)
  | (go_at_call 21; refine (HN.out _).mono ?_; rintro e w3 ⟨g, y, l3, hy, b3, hor⟩; obtain ⟨W', H', l', d, hr, rfl, hbt⟩ := hor.elim (fun ⟨_, _, _, h, _⟩ => by cases h) id; injection hr with hr1 hr2 hr3; subst hr1 hr2 hr3))
 have hy0 : y.bytes = (z : Int) := by rw [hy]; show ((4 * (W * H) : Nat) : Int) = _; rw [HNE.out, HZ.out]
 have hll : l.length = z := by rw [HL.out, HNE.out, HZ.out]
 have B3 := below_next (below_next b1 b2) b3
 rw [hll] at hbt ⊢
 have I4 : IB ((w3.alloc (.cells #[.int .i64 (W : Int), .int .i64 (H : Int), .slice (some ⟨d, 0, none⟩) z z] 32)).alloc (.cells #[.int .i64 0, .int .i64 0, .int .i64 0] 34)) w3.heap.size (W : Int) (H : Int) (some ⟨d, 0, none⟩) z z := Blk.alloc (Blk.new _ _ _) _
 have F4 : FB ((w3.alloc (.cells #[.int .i64 (W : Int), .int .i64 (H : Int), .slice (some ⟨d, 0, none⟩) z z] 32)).alloc (.cells #[.int .i64 0, .int .i64 0, .int .i64 0] 34)) (w3.heap.size + 1) 0 0 0 := Blk.new_at _ _ _ (by simp)
 have L4 : LedAt ((w3.alloc (.cells #[.int .i64 (W : Int), .int .i64 (H : Int), .slice (some ⟨d, 0, none⟩) z z] 32)).alloc (.cells #[.int .i64 0, .int .i64 0, .int .i64 0] 34)) g y := Blk.alloc (Blk.alloc l3 _) _
 have T4 : BytesAt ((w3.alloc (.cells #[.int .i64 (W : Int), .int .i64 (H : Int), .slice (some ⟨d, 0, none⟩) z z] 32)).alloc (.cells #[.int .i64 0, .int .i64 0, .int .i64 0] 34)) (some ⟨d, 0, none⟩) z l := (hbt.alloc _).alloc _
 have B4 : Below w.heap.size w ((w3.alloc (.cells #[.int .i64 (W : Int), .int .i64 (H : Int), .slice (some ⟨d, 0, none⟩) z z] 32)).alloc (.cells #[.int .i64 0, .int .i64 0, .int .i64 0] 34)) := (B3.alloc B3.size _).alloc (by have := B3.size; simp; omega) _
 generalize (w3.alloc (.cells #[.int .i64 (W : Int), .int .i64 (H : Int), .slice (some ⟨d, 0, none⟩) z z] 32)).alloc (.cells #[.int .i64 0, .int .i64 0, .int .i64 0] 34) = w4 at I4 F4 L4 T4 B4 ⊢
 generalize w3.heap.size + 1 = qf at F4 ⊢
 generalize w3.heap.size = qm at I4 ⊢
 clear b1 b2 b3 B3 l3 hor hbt
 refine (HD.out _).mono ?_
 rintro e w5 ⟨b5, v, L, rfl, own, hfl, hlen⟩
 obtain ⟨gq, cap, rfl, hcap, hq⟩ : ∃ gq cap, v = .slice (some ⟨gq, 0, none⟩) N cap ∧ N ≤ cap ∧ QAt w5 gq 0 L := by
  have hlN : L.length = N := hlen.trans HNE.out
  rcases own.form with ⟨_, h⟩ | ⟨gq, cap, h, _, _, h2, h3⟩
  ·have := HN1.out
   rw [h] at hlen
   simp at hlen
   omega
  ·exact ⟨gq, cap, by rw [h, hlN], by omega, h3⟩
 have b6 : Below w5.heap.size w5 (w5.alloc (.cells #[.int .i64 (W : Int), .int .i64 (H : Int), .slice (some ⟨gq, 0, none⟩) N cap, .int .i64 0, .int .i64 0] 28)) := (Below.refl _ _).alloc (Nat.le_refl _) _
 have R6 : RI (w5.alloc (.cells #[.int .i64 (W : Int), .int .i64 (H : Int), .slice (some ⟨gq, 0, none⟩) N cap, .int .i64 0, .int .i64 0] 28)) w5.heap.size (W : Int) (H : Int) (.slice (some ⟨gq, 0, none⟩) N cap) 0 0 := Blk.new _ _ _
 have F6 : FB (w5.alloc (.cells #[.int .i64 (W : Int), .int .i64 (H : Int), .slice (some ⟨gq, 0, none⟩) N cap, .int .i64 0, .int .i64 0] 28)) qf 0 0 0 := Blk.alloc (FB.below F4 b5) _
 have I6 : IB (w5.alloc (.cells #[.int .i64 (W : Int), .int .i64 (H : Int), .slice (some ⟨gq, 0, none⟩) N cap, .int .i64 0, .int .i64 0] 28)) qm (W : Int) (H : Int) (some ⟨d, 0, none⟩) z z := Blk.alloc (Blk.below I4 b5 (Blk.lt I4)) _
 have L6 : LedAt (w5.alloc (.cells #[.int .i64 (W : Int), .int .i64 (H : Int), .slice (some ⟨gq, 0, none⟩) N cap, .int .i64 0, .int .i64 0] 28)) g y := Blk.alloc (Blk.below L4 b5 (Blk.lt L4)) _
 have T6 : BytesAt (w5.alloc (.cells #[.int .i64 (W : Int), .int .i64 (H : Int), .slice (some ⟨gq, 0, none⟩) N cap, .int .i64 0, .int .i64 0] 28)) (some ⟨d, 0, none⟩) z l := (T4.below b5).alloc _
 have Q6 : QAt (w5.alloc (.cells #[.int .i64 (W : Int), .int .i64 (H : Int), .slice (some ⟨gq, 0, none⟩) N cap, .int .i64 0, .int .i64 0] 28)) gq 0 L := hq.below b6
 have B6 := below_next (below_next B4 b5) b6
 go_upto_region 8 with fail
 generalize w5.alloc (.cells #[.int .i64 (W : Int), .int .i64 (H : Int), .slice (some ⟨gq, 0, none⟩) N cap, .int .i64 0, .int .i64 0] 28) = w6 at R6 F6 I6 L6 T6 Q6 B6 ⊢
 generalize w5.heap.size = qr at R6 ⊢
 have HLN : Hid (N = L.length) := Lib.hid (hlen.trans HNE.out).symm
 have HFL := Lib.hid hfl
 have HNB : Hid (N ≤ 268435456) := Lib.hid (by have := HNN.out; have := HNE.out; omega)
 clear b5 b6 own hfl hlen hq I4 F4 L4 T4 B4
 have F7 := F6
 have R7 : RI w6 qr (W : Int) (H : Int) (.slice (some ⟨gq, 0, none⟩) N cap) 0 0 := R6
 have L7 : LedAt w6 g y := L6
 have I7 : IB w6 qm (W : Int) (H : Int) (some ⟨d, 0, none⟩) z z := I6
 have T7 := T6
 have Q7 := Q6
 have B7 := B6
 obtain ⟨c0, c1, c2, z0, z1, z2, fl⟩ := FB.all F7
 obtain ⟨d0, d1, d2, d3, d4, y0, y1, y2, y3, y4, dl⟩ := RI.all R7
 obtain ⟨e0, e1, e2, v0, v1, v2, il⟩ := IB.all I7
 go_upto_region 10 with fail
 have HH7 := Lib.hid (And.intro F7 (And.intro I7 (And.intro R7 (And.intro L7 (And.intro T7 (And.intro Q7 B7))))))
 clear F7 I7 R7 L7 T7 Q7 B7 c0 c1 c2 z0 z1 z2 fl d0 d1 d2 d3 d4 y0 y1 y2 y3 y4 dl e0 e1 e2 v0 v1 v2 il F6 I6 R6 L6 T6 Q6 B6
 refine wp_region_held_drew (S := fun w => LawS w qf qm qr (W : Int) (H : Int) (some ⟨d, 0, none⟩) z z (.slice (some ⟨gq, 0, none⟩) N cap)) (by kernel_rfl) (LawS.of (Blk.drew HH7.out.1) (Blk.drew HH7.out.2.1) (Blk.drew HH7.out.2.2.1)) (fun hHeld => ?_)
 refine wpAnyH_take (i := 0) (v := ?_) rfl (by kernel_rfl) (by kernel_rfl) (by kernel_rfl) (fun _ _ _ h => h) (Or.inl ⟨by kernel_rfl, ?_⟩) (by assumption) ?_
 rotate_left
 ·intro w hSw; obtain ⟨s0, s1, s2, s3, s4, s5, s6, s7, s8, s9, s10⟩ := hSw; go_simp; (try with_reducible rfl)
 (try simp only [sps])
 refine wpAnyH_take (i := 1) (v := ?_) rfl (by kernel_rfl) (by kernel_rfl) (by kernel_rfl) (fun _ _ _ h => h) (Or.inl ⟨by kernel_rfl, ?_⟩) (by assumption) ?_
 rotate_left
 ·intro w hSw; obtain ⟨s0, s1, s2, s3, s4, s5, s6, s7, s8, s9, s10⟩ := hSw; go_simp; (try with_reducible rfl)
 (try simp only [sps])
 refine wpAnyH_take (i := 2) (v := ?_) rfl (by kernel_rfl) (by kernel_rfl) (by kernel_rfl) (fun _ _ _ h => h) (Or.inl ⟨by kernel_rfl, ?_⟩) (by assumption) ?_
 rotate_left
 ·intro w hSw; obtain ⟨s0, s1, s2, s3, s4, s5, s6, s7, s8, s9, s10⟩ := hSw; go_simp; (try with_reducible rfl)
 (try simp only [sps])
 refine wpAnyH_take (i := 3) (v := ?_) rfl (by kernel_rfl) (by kernel_rfl) (by kernel_rfl) (fun _ _ _ h => h) (Or.inl ⟨by kernel_rfl, ?_⟩) (by assumption) ?_
 rotate_left
 ·intro w hSw; obtain ⟨s0, s1, s2, s3, s4, s5, s6, s7, s8, s9, s10⟩ := hSw; go_simp; (try with_reducible rfl)
 (try simp only [sps])
 refine wpAnyH_take (i := 4) (v := ?_) rfl (by kernel_rfl) (by kernel_rfl) (by kernel_rfl) (fun _ _ _ h => h) (Or.inl ⟨by kernel_rfl, ?_⟩) (by assumption) ?_
 rotate_left
 ·intro w hSw; obtain ⟨s0, s1, s2, s3, s4, s5, s6, s7, s8, s9, s10⟩ := hSw; go_simp; (try with_reducible rfl)
 (try simp only [sps])
 refine wpAnyH_take (i := 5) (v := ?_) rfl (by kernel_rfl) (by kernel_rfl) (by kernel_rfl) (fun _ _ _ h => h) (Or.inl ⟨by kernel_rfl, ?_⟩) (by assumption) ?_
 rotate_left
 ·intro w hSw; obtain ⟨s0, s1, s2, s3, s4, s5, s6, s7, s8, s9, s10⟩ := hSw; go_simp; (try with_reducible rfl)
 (try simp only [sps])
 refine wpAnyH_ready (rs := [6]) (by kernel_rfl) (by simp) ?_
 refine AllReadyH.cons_yes rfl (by kernel_rfl) (fun K hK => ?_) AllReadyH.nil
 go_simp
 refine (refPlain (w := w6.drew) HLN.out hcap HNB.out HH7.out.2.2.2.2.2.1).mono ?_
 rintro e w8 ⟨d8, c8, rfl, t8, b8⟩
 rw [HFL.out, HZ.out] at t8
 have F8 : FB w8 qf 0 0 0 := Blk.below (Blk.drew HH7.out.1) b8 (Blk.lt HH7.out.1)
 have L8 : LedAt w8 g y := Blk.below (Blk.drew HH7.out.2.2.2.1) b8 (Blk.lt HH7.out.2.2.2.1)
 have I8 : IB w8 qm (W : Int) (H : Int) (some ⟨d, 0, none⟩) z z := Blk.below (Blk.drew HH7.out.2.1) b8 (Blk.lt HH7.out.2.1)
 have R8 : RI w8 qr (W : Int) (H : Int) (.slice (some ⟨gq, 0, none⟩) N cap) 0 0 := Blk.below (Blk.drew HH7.out.2.2.1) b8 (Blk.lt HH7.out.2.2.1)
 have T8 := BytesAt.below (w := w6.drew) HH7.out.2.2.2.2.1 b8
 have B8 := below_next HH7.out.2.2.2.2.2.2.drew b8
 rw [HZ.out]
 refine hK.out _ _ (LawS.of F8 I8 R8) ?_
 clear hK K hHeld
 intro hHeld
 (try simp only [sps])
 refine wpAnyH_ready (rs := [7]) (by kernel_rfl) (by simp) ?_
 refine AllReadyH.cons_yes rfl (by kernel_rfl) (fun K hK => ?_) AllReadyH.nil
 go_simp
 refine (refSame_bool (same_self _ _ _) T8 t8).mono ?_
 rintro e w9 ⟨rfl, b9⟩
 have L9 : LedAt w9 g y := Blk.below L8 b9 (Blk.lt L8)
 have B9 := below_next B8 b9
 have F9 : FB w9 qf 0 0 0 := Blk.below F8 b9 (Blk.lt F8)
 have I9 : IB w9 qm (W : Int) (H : Int) (some ⟨d, 0, none⟩) z z := Blk.below I8 b9 (Blk.lt I8)
 have R9 : RI w9 qr (W : Int) (H : Int) (.slice (some ⟨gq, 0, none⟩) N cap) 0 0 := Blk.below R8 b9 (Blk.lt R8)
 refine hK.out _ _ (LawS.of F9 I9 R9) ?_
 clear hK K hHeld
 intro hHeld
 (try simp only [sps])
 refine wpAnyH_take (i := 8) (v := ?_) rfl (by kernel_rfl) (by kernel_rfl) (by kernel_rfl) (fun _ _ _ h => h) (Or.inl ⟨by kernel_rfl, ?_⟩) (by assumption) ?_
 rotate_left
 ·intro w hSw; obtain ⟨s0, s1, s2, s3, s4, s5, s6, s7, s8, s9, s10⟩ := hSw; go_simp; (try with_reducible rfl)
 (try simp only [sps])
 refine wpAnyH_take (i := 9) (v := ?_) rfl (by kernel_rfl) (by kernel_rfl) (by kernel_rfl) (fun _ _ _ h => h) (Or.inl ⟨by kernel_rfl, ?_⟩) (by assumption) ?_
 rotate_left
 ·intro w hSw; obtain ⟨s0, s1, s2, s3, s4, s5, s6, s7, s8, s9, s10⟩ := hSw; go_simp; (try with_reducible rfl)
 (try simp only [sps])
 refine wpAnyH_take (i := 10) (v := ?_) rfl (by kernel_rfl) (by kernel_rfl) (by kernel_rfl) (fun _ _ _ h => h) (Or.inl ⟨by kernel_rfl, ?_⟩) (by assumption) ?_
 rotate_left
 ·intro w hSw; obtain ⟨s0, s1, s2, s3, s4, s5, s6, s7, s8, s9, s10⟩ := hSw; go_simp; (try with_reducible rfl)
 (try simp only [sps])
 refine wpAnyH_take (i := 12) (v := ?_) rfl (by kernel_rfl) (by kernel_rfl) (by kernel_rfl) (fun _ _ _ h => h) (Or.inl ⟨by kernel_rfl, ?_⟩) (by assumption) ?_
 rotate_left
 ·intro w hSw; obtain ⟨s0, s1, s2, s3, s4, s5, s6, s7, s8, s9, s10⟩ := hSw; go_simp; (try with_reducible rfl)
 (try simp only [sps])
 refine wpAnyH_take (i := 13) (v := ?_) rfl (by kernel_rfl) (by kernel_rfl) (by kernel_rfl) (fun _ _ _ h => h) (Or.inl ⟨by kernel_rfl, ?_⟩) (by assumption) ?_
 rotate_left
 ·intro w hSw; obtain ⟨s0, s1, s2, s3, s4, s5, s6, s7, s8, s9, s10⟩ := hSw; go_simp; (try with_reducible rfl)
 (try simp only [sps])
 refine wpAnyH_take (i := 14) (v := ?_) rfl (by kernel_rfl) (by kernel_rfl) (by kernel_rfl) (fun _ _ _ h => h) (Or.inl ⟨by kernel_rfl, ?_⟩) (by assumption) ?_
 rotate_left
 ·intro w hSw; obtain ⟨s0, s1, s2, s3, s4, s5, s6, s7, s8, s9, s10⟩ := hSw; go_simp; (try with_reducible rfl)
 (try simp only [sps])
 refine wpAnyH_take (i := 15) (v := ?_) rfl (by kernel_rfl) (by kernel_rfl) (by kernel_rfl) (fun _ _ _ h => h) (Or.inl ⟨by kernel_rfl, ?_⟩) (by assumption) ?_
 rotate_left
 ·intro w hSw; obtain ⟨s0, s1, s2, s3, s4, s5, s6, s7, s8, s9, s10⟩ := hSw; go_simp; (try with_reducible rfl)
 (try simp only [sps])
 refine wpAnyH_ready (rs := [11]) (by kernel_rfl) (by simp) ?_
 refine AllReadyH.cons_yes rfl (by kernel_rfl) (fun K hK => ?_) AllReadyH.nil
 go_simp
 refine (bytes_at L9 hy0).mono ?_
 rintro e w10 ⟨rfl, rfl⟩
 refine hK.out _ _ (LawS.of F9 I9 R9) ?_
 clear hK K hHeld
 intro hHeld
 (try simp only [sps])
 refine wpAnyH_take (i := 16) (v := ?_) rfl (by kernel_rfl) (by kernel_rfl) (by kernel_rfl) (fun _ _ _ h => h) (Or.inl ⟨by kernel_rfl, ?_⟩) (by assumption) ?_
 rotate_left
 ·intro w hSw; obtain ⟨s0, s1, s2, s3, s4, s5, s6, s7, s8, s9, s10⟩ := hSw; go_simp; (try with_reducible rfl)
 (try simp only [sps])
 refine wpAnyH_take (i := 17) (v := ?_) rfl (by kernel_rfl) (by kernel_rfl) (by kernel_rfl) (fun _ _ _ h => h) (Or.inl ⟨by kernel_rfl, ?_⟩) (by assumption) ?_
 rotate_left
 ·intro w hSw; obtain ⟨s0, s1, s2, s3, s4, s5, s6, s7, s8, s9, s10⟩ := hSw; go_simp; (try with_reducible rfl)
 (try simp only [sps])
 refine wpAnyH_take (i := 18) (v := ?_) rfl (by kernel_rfl) (by kernel_rfl) (by kernel_rfl) (fun _ _ _ h => h) (Or.inl ⟨by kernel_rfl, ?_⟩) (by assumption) ?_
 rotate_left
 ·intro w hSw; obtain ⟨s0, s1, s2, s3, s4, s5, s6, s7, s8, s9, s10⟩ := hSw; go_simp; (try with_reducible rfl)
 (try simp only [sps])
 refine wpAnyH_ready (rs := [19]) (by kernel_rfl) (by simp) ?_
 refine AllReadyH.cons_yes rfl (by kernel_rfl) (fun K hK => ?_) AllReadyH.nil
 go_simp
 refine (awake15_any _).mono ?_
 rintro e w11 ⟨rfl, b11⟩
 refine hK.out _ _ (LawS.of (Blk.below F9 b11 (Blk.lt F9)) (Blk.below I9 b11 (Blk.lt I9)) (Blk.below R9 b11 (Blk.lt R9))) ?_
 clear hK K hHeld
 intro hHeld
 (try simp only [sps])
 refine wpAnyH_take (i := 20) (v := ?_) rfl (by kernel_rfl) (by kernel_rfl) (by kernel_rfl) (fun _ _ _ h => h) (Or.inl ⟨by kernel_rfl, ?_⟩) (by assumption) ?_
 rotate_left
 ·intro w hSw; obtain ⟨s0, s1, s2, s3, s4, s5, s6, s7, s8, s9, s10⟩ := hSw; go_simp; (try with_reducible rfl)
 (try simp only [sps])
 refine wpAnyH_take (i := 21) (v := ?_) rfl (by kernel_rfl) (by kernel_rfl) (by kernel_rfl) (fun _ _ _ h => h) (Or.inl ⟨by kernel_rfl, ?_⟩) (by assumption) ?_
 rotate_left
 ·intro w hSw; obtain ⟨s0, s1, s2, s3, s4, s5, s6, s7, s8, s9, s10⟩ := hSw; go_simp; (try with_reducible rfl)
 (try simp only [sps])
 refine wpAnyH_done (by kernel_rfl) ?_ _
 (try simp only [sps])
 go_wp2_with fail
 go_ret
 exact ⟨rfl, below_next B9 b11⟩
theorem pnmDecodes_wide {s : ByteArray} (hs : s.size ≤ 600) (u : 100 < (pnmSides s).1 ∨ 100 < (pnmSides s).2) (w : World) :
  Calls Tryz.prog 6 #[.string s] w fun e w' => e = .returned (.bool true) ∧ Below w.heap.size w w' := by
 have hsI : ¬ (600 : Int) < (s.size : Int) := by omega
 have HR := Lib.hid (fun w => refPnmSides (s := s) (by omega) w)
 generalize (pnmSides s).1 = W at u HR
 generalize (pnmSides s).2 = H at u HR
 by_cases hW : 100 < W
 ·have hWI : (100 : Int) < (W : Int) := by omega
  clear u hs hW
  go_enter Tryz.func6, Tryz.ntmps6
  go_wp2_with (first
   | (go_at_call 20; refine (HR.out _).mono ?_; rintro e w1 ⟨rfl, b1⟩)
   | (go_at_call 19; refine (awake15_any _).mono ?_; rintro e w2 ⟨rfl, b2⟩))
  go_ret
  exact ⟨rfl, below_next b1 b2⟩
 ·have hWI : ¬ (100 : Int) < (W : Int) := by omega
  have hHI : (100 : Int) < (H : Int) := by omega
  clear u hs hW
  go_enter Tryz.func6, Tryz.ntmps6
  go_wp2_with (first
   | (go_at_call 20; refine (HR.out _).mono ?_; rintro e w1 ⟨rfl, b1⟩)
   | (go_at_call 19; refine (awake15_any _).mono ?_; rintro e w2 ⟨rfl, b2⟩))
  go_ret
  exact ⟨rfl, below_next b1 b2⟩
theorem smpR_out {s : ByteArray} {M t : Nat} (ht : t ≤ s.size) : (∀ b, smpR s M t = .inl b → b.1 ≠ 0) ∧ ∀ r, smpR s M t = .inr r → r.2 ≤ s.size := by
 unfold smpR
 rcases numberAt_or (nats s) t (by rw [nats_len]; exact ht) with ⟨kd, pl, hg, hk0, _, _⟩ | ⟨V, f, n, hg, hn, _⟩
 ·rw [hg, if_pos hk0]
  exact ⟨fun b h => by injection h with h; subst h; exact hk0, fun r h => by cases h⟩
 ·rw [hg, if_neg (by simp)]
  rw [nats_len] at hn
  split
  ·exact ⟨fun b h => by injection h with h; subst h; simp, fun r h => by cases h⟩
  ·exact ⟨fun b h => (by cases h), fun r h => by injection h with h; subst h; exact hn⟩
theorem tpixR_out {s : ByteArray} {K M t : Nat} (ht : t ≤ s.size) : (∀ b, tpixR s K M t = .inl b → b.1 ≠ 0) ∧ ∀ r, tpixR s K M t = .inr r → r.2 ≤ s.size := by
 unfold tpixR
 split
 ·unfold bitR
  rcases digitAt_or (nats s) t (by rw [nats_len]; exact ht) with ⟨kd, pl, hg, hk0, _, _⟩ | ⟨V, f, hg, hf, _⟩
  ·rw [hg, if_pos hk0]
   exact ⟨fun b h => by injection h with h; subst h; exact hk0, fun r h => by cases h⟩
  ·rw [hg, if_neg (by simp)]
   rw [nats_len] at hf
   exact ⟨fun b h => (by cases h), fun r h => by injection h with h; subst h; exact hf⟩
 ·split
  ·have h1 := smpR_out (M := M) ht
   cases e1 : smpR s M t with
   | inl b => exact ⟨fun b' h => by injection h with h; subst h; exact h1.1 _ e1, fun r h => by cases h⟩
   | inr r1 =>
    have h2 := smpR_out (M := M) (h1.2 _ e1)
    simp only [Out.bind]
    cases e2 : smpR s M r1.2 with
    | inl b => exact ⟨fun b' h => by injection h with h; subst h; exact h2.1 _ e2, fun r h => by cases h⟩
    | inr r2 =>
     have h3 := smpR_out (M := M) (h2.2 _ e2)
     simp only [Out.bind]
     cases e3 : smpR s M r2.2 with
     | inl b => exact ⟨fun b' h => by injection h with h; subst h; exact h3.1 _ e3, fun r h => by cases h⟩
     | inr r3 => exact ⟨fun b' h => (by cases h), fun r h => by injection h with h; subst h; exact h3.2 _ e3⟩
  ·have h1 := smpR_out (M := M) ht
   cases e1 : smpR s M t with
   | inl b => exact ⟨fun b' h => by injection h with h; subst h; exact h1.1 _ e1, fun r h => by cases h⟩
   | inr r1 => exact ⟨fun b' h => (by cases h), fun r h => by injection h with h; subst h; exact h1.2 _ e1⟩
/-- a fault that is told is one -/
theorem lawFaultT {s : ByteArray} {h : HeadR} {k a : Nat} (hh : HeadOk s h) (hK : h.K ≤ 3) (hW : h.W ≤ 100) (hH : h.H ≤ 100) (hs : s.size ≤ 20000) (hsm : s.size ≤ 1099511627776) (ht : (pnmDec s).told = .bad k a) : k ≠ 0 := by
 rw [pnmDec_told, hh.is, if_neg (by rw [hh.kind]; simp)] at ht
 unfold bodyR at ht
 rw [if_pos hK] at ht
 have ha := hh.At
 have key : ∀ (m t : Nat) (L : List Qc), t ≤ s.size → pixsR h.W h.H (tpixR s h.K h.M) m t L = .bad k a → k ≠ 0 := by
  intro m
  induction m with
  | zero => intro t L ht hp; unfold pixsR at hp; cases hp
  | succ m ih =>
   intro t L ht hq
   unfold pixsR at hq
   cases hp : tpixR s h.K h.M t with
   | inl b =>
    rw [hp] at hq
    have hb := (tpixR_out ht).1 b hp
    obtain ⟨hk, _⟩ := DRes.bad_inj hq
    rw [← hk]
    exact hb
   | inr r => rw [hp] at hq; exact ih _ _ ((tpixR_out ht).2 r hp) hq
 exact key _ _ _ ha ht
/-- a fault that is told is one -/
theorem lawFaultR {s : ByteArray} {h : HeadR} {k a : Nat} (hh : HeadOk s h) (hK : ¬ h.K ≤ 3) (hW : h.W ≤ 100) (hH : h.H ≤ 100) (hs : s.size ≤ 20000) (hsm : s.size ≤ 1099511627776) (ht : (pnmDec s).told = .bad k a) : k ≠ 0 := by
 rw [pnmDec_told, hh.is, if_neg (by rw [hh.kind]; simp)] at ht
 unfold bodyR at ht
 rw [if_neg hK] at ht
 have key : ∀ {σ : Type} {st : σ → Out (Qc × σ)} (hst : ∀ t b, st t = .inl b → b.1 ≠ 0) (m : Nat) (t : σ) (L : List Qc), pixsR h.W h.H st m t L = .bad k a → k ≠ 0 := by
  intro σ st hst m
  induction m with
  | zero => intro t L hp; unfold pixsR at hp; cases hp
  | succ m ih =>
   intro t L hq
   unfold pixsR at hq
   cases hp : st t with
   | inl b =>
    rw [hp] at hq
    have hb := hst t b hp
    obtain ⟨hk, _⟩ := DRes.bad_inj hq
    rw [← hk]
    exact hb
   | inr r => rw [hp] at hq; exact ih _ _ hq
 split at ht
 ·refine key (fun t b hb => ?_) _ _ _ ht
  unfold bpixR at hb
  split at hb
  ·split at hb
   ·cases hb
   ·injection hb with hb; subst hb; simp
  ·cases hb
 ·exact key (fun t b hb => rpixR_ne hb) _ _ _ ht
theorem pnmTold_ways {s : ByteArray} (hs : s.size ≤ 600) (hw : (pnmSides s).1 ≤ 100) (hh : (pnmSides s).2 ≤ 100) : (∃ k a : Nat, k ≠ 0 ∧ (pnmDec s).told = .bad k a) ∨ (1 ≤ (pnmSides s).1 ∧ 1 ≤ (pnmSides s).2 ∧ ∃ l, (pnmDec s).told = .img (pnmSides s).1 (pnmSides s).2 l) := by
 unfold pnmSides at hw hh ⊢
 by_cases h0 : (headAt (nats s)).Kind = 0
 ·have hok := headOk_of h0
  cases ht : (pnmDec s).told with
  | bad k a =>
   by_cases hK : (headAt (nats s)).K ≤ 3
   ·exact .inl ⟨k, a, lawFaultT hok hK hw hh (by omega) (by omega) ht, rfl⟩
   ·exact .inl ⟨k, a, lawFaultR hok hK hw hh (by omega) (by omega) ht, rfl⟩
  | img W H l =>
   obtain ⟨rfl, rfl⟩ := told_sides hok ht
   exact .inr ⟨hok.W.1, hok.H.1, l, rfl⟩
 ·exact .inl ⟨_, _, h0, by rw [pnmDec_told, if_pos h0]⟩
theorem pnmDecodes_said (w : World) (s : ByteArray) (hs : s.size ≤ maxLen) :
  Calls Tryz.prog 6 #[.string s] w fun e w' => e = .returned (.bool true) ∧ Below w.heap.size w w' := by
 clear hs
 by_cases hs : s.size ≤ 600
 ·by_cases u : 100 < (pnmSides s).1 ∨ 100 < (pnmSides s).2
  ·exact pnmDecodes_wide hs u w
  ·have uW : (pnmSides s).1 ≤ 100 := Nat.le_of_not_lt fun e => u (.inl e)
   have uH : (pnmSides s).2 ≤ 100 := Nat.le_of_not_lt fun e => u (.inr e)
   rcases pnmTold_ways hs uW uH with ⟨k, a, hk, ht⟩ | ⟨w1, h1, l, ht⟩
   ·exact pnmDecodes_bad hs hk ⟨_, _, rfl, uW, uH⟩ ht w
   ·exact pnmDecodes_img hs rfl ⟨w1, uW⟩ ⟨h1, uH⟩ ht w
 ·have i1 : (600 : Int) < (s.size : Int) := by omega
  go_enter Tryz.func6, Tryz.ntmps6
  go_wp2_with (go_at_call 19; refine (awake15_any _).mono ?_; rintro e w2 ⟨rfl, b2⟩)
  go_ret
  exact ⟨rfl, b2⟩
end Go.Proofs.YtgmgcfjllijhgaaGreat
