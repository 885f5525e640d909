/- The document's Decode of PNM. -/
import Derived.Test.YtgmgcfjllijhgaaGreatVPnmDv
import Derived.Test.YtgmgcfjllijhgaaGreatVPnmDc
namespace Go.Proofs.YtgmgcfjllijhgaaGreat
open Go.RowKit
set_option linter.unusedVariables false
set_option linter.unusedSimpArgs false

theorem OwnsQ.base_ {w : World} {b b' : Nat} {v : Value} {L : List Qc} (h : OwnsQ w b v L) (hb : b' ≤ b) : OwnsQ w b' v L := by
 refine ⟨h.1, ?_⟩
 rcases h.2 with h | ⟨r, cap, cur, hv, hr, hx⟩
 ·exact .inl h
 ·exact .inr ⟨r, cap, cur, hv, Nat.le_trans hb hr, hx⟩
def PxForm (d : DRes) (w' : World) (n : Nat) (W H : Int) (v : Value) (k i : Int) : Prop := match d with
 | .bad k' a => W = 0 ∧ H = 0 ∧ v = .slice none 0 0 ∧ k = (k' : Int) ∧ i = (a : Int)
 | .img W' H' l => W = (W' : Int) ∧ H = (H' : Int) ∧ k = 0 ∧ i = 0 ∧ ∃ L, OwnsQ w' n v L ∧ flat L = l ∧ L.length = W' * H'
theorem refPost_form {d : DRes} {w' : World} {n : Nat} {e : Ending} (h : match d with
  | .bad k a => e = .returned (.agg #[.int .i64 0, .int .i64 0, .slice none 0 0, .int .i64 (k : Int), .int .i64 (a : Int)])
  | .img W H l => ∃ v L, e = .returned (.agg #[.int .i64 (W : Int), .int .i64 (H : Int), v, .int .i64 0, .int .i64 0]) ∧ OwnsQ w' n v L ∧ flat L = l ∧ L.length = W * H) :
  ∃ W H va vn vc k i, e = .returned (.agg #[.int .i64 W, .int .i64 H, .slice va vn vc, .int .i64 k, .int .i64 i]) ∧ PxForm d w' n W H (.slice va vn vc) k i := by
 cases d with
 | bad k a => exact ⟨_, _, _, _, _, _, _, h, rfl, rfl, rfl, rfl, rfl⟩
 | img W H l =>
  obtain ⟨v, L, h1, h2⟩ := h
  obtain ⟨va, vc, rfl⟩ := h2.1.slice
  exact ⟨_, _, _, _, _, _, _, h1, rfl, rfl, rfl, rfl, L, h2⟩
theorem PxForm.post {d : DRes} {w w' : World} {n : Nat} {W H : Int} {v : Value} {k i : Int} {u0 u1 u2 u3 u4 : Value} {b' : Nat} {W2 H2 : Int} {v2 : Value} {k2 i2 : Int} (h : PxForm d w' n W H v k i) (f : RI w' b' W2 H2 v2 k2 i2) (hb : w.heap.size ≤ n) (B : Below w.heap.size w (st5 w' b' u0 u1 u2 u3 u4)) :
  RefPost d w (st5 w' b' u0 u1 u2 u3 u4) (.returned (.agg #[.int .i64 W, .int .i64 H, v, .int .i64 k, .int .i64 i])) := by
 refine ⟨B, ?_⟩
 cases d with
 | bad k' a => obtain ⟨rfl, rfl, rfl, rfl, rfl⟩ := h; rfl
 | img W' H' l =>
  obtain ⟨rfl, rfl, rfl, rfl, L, o, h2, h3⟩ := h
  exact ⟨v, L, rfl, (o.base_ hb).st5RI f, h2, h3⟩
theorem docReadT {s : ByteArray} {K W H M n : Nat} (hsm : s.size ≤ 1099511627776) (hh : HeadOk s ⟨K, W, H, M, n, 0, 0⟩) (hK : K ≤ 3) (w : World) : Calls Tryz.prog 10 #[.string s, .agg #[.int .i64 (K : Int), .int .i64 (W : Int), .int .i64 (H : Int), .int .i64 (M : Int), .int .i64 (n : Int), .int .i64 0, .int .i64 0]] w fun e w' => RefPost (pnmDec s).told w w' e := by
 have ht : (pnmDec s).told = pixsR W H (tpixR s K M) (W * H) n [] := by
  rw [pnmDec_told, hh.is, if_neg (by simp)]
  unfold bodyR
  rw [if_pos hK]
 rw [ht]
 have hK1 : 1 ≤ K := hh.K.1
 match K, hK1, hK, hh with
 | 1, _, _, hh => exact docRead_one hsm hh rfl w
 | 2, _, _, hh => exact docRead_two hsm hh rfl w
 | 3, _, _, hh => exact docRead_three hsm hh rfl w
theorem pixsR_img {σ : Type} {W H W' H' : Nat} {l : List UInt8} {step : σ → Out (Qc × σ)} : ∀ (m : Nat) (t : σ) (L : List Qc), pixsR W H step m t L = .img W' H' l → W' = W ∧ H' = H
 | 0, t, L, h => by unfold pixsR at h; injection h with h1 h2 _; exact ⟨h1.symm, h2.symm⟩
 | m + 1, t, L, h => by
  unfold pixsR at h
  cases hs : step t with
  | inl b => rw [hs] at h; cases h
  | inr r => rw [hs] at h; exact pixsR_img m _ _ h
theorem told_sides {s : ByteArray} {h : HeadR} {W' H' : Nat} {l : List UInt8} (hh : HeadOk s h) (ht : (pnmDec s).told = .img W' H' l) : W' = h.W ∧ H' = h.H := by
 rw [pnmDec_told, hh.is, if_neg (by rw [hh.kind]; simp)] at ht
 unfold bodyR at ht
 split at ht
 ·exact pixsR_img _ _ _ ht
 ·split at ht
  ·exact pixsR_img _ _ _ ht
  ·exact pixsR_img _ _ _ ht
theorem docReadR {s : ByteArray} {K W H M n : Nat} (hsm : s.size ≤ 1099511627776) (hh : HeadOk s ⟨K, W, H, M, n, 0, 0⟩) (hK : ¬ K ≤ 3) (w : World) : Calls Tryz.prog 15 #[.string s, .agg #[.int .i64 (K : Int), .int .i64 (W : Int), .int .i64 (H : Int), .int .i64 (M : Int), .int .i64 (n : Int), .int .i64 0, .int .i64 0]] w fun e w' => RefPost (pnmDec s).told w w' e := by
 have ht : (pnmDec s).told = bodyR s ⟨K, W, H, M, n, 0, 0⟩ := by
  rw [pnmDec_told, hh.is, if_neg (by simp)]
 rw [ht]
 unfold bodyR
 rw [if_neg hK]
 have hK6 : K ≤ 6 := hh.K.2
 match K, hK, hK6, hh with
 | 4, _, _, hh =>
  rw [if_pos rfl]
  exact docRaw_four hsm hh rfl w
 | 5, _, _, hh =>
  rw [if_neg (by simp)]
  exact docRaw_five hsm hh rfl rfl w
 | 6, _, _, hh =>
  rw [if_neg (by simp)]
  exact docRaw_six hsm hh rfl rfl w
set_option maxRecDepth 100000 in
set_option maxHeartbeats 4000000 in
theorem refPnmDec_bad {s : ByteArray} {K W H M n kd pl : Nat} (hsm : s.size ≤ 1099511627776) (hh : headAt (nats s) = ⟨K, W, H, M, n, kd, pl⟩) (hk : kd ≠ 0) (w : World) : Calls Tryz.prog 24 #[.string s] w fun e w' => RefPost (pnmDec s).told w w' e := by
 have ht : (pnmDec s).told = .bad kd pl := by rw [pnmDec_told, hh, if_pos hk]
 rw [ht]
 have A0 : RI (w.alloc (.cells #[.int .i64 0, .int .i64 0, .slice none 0 0, .int .i64 0, .int .i64 0] 28)) w.heap.size 0 0 (.slice none 0 0) 0 0 := Blk.new _ _ _
 have B0 : Below w.heap.size w (w.alloc (.cells #[.int .i64 0, .int .i64 0, .slice none 0 0, .int .i64 0, .int .i64 0] 28)) := (Below.refl _ _).alloc (Nat.le_refl _) _
 have HR0 := fun w => refHead_any s w hsm
 rw [hh] at HR0
 have HR : Hid (∀ w : World, Calls Tryz.prog 9 #[.string s] w fun e w' => e = .returned (.agg #[.int .i64 (K : Int), .int .i64 (W : Int), .int .i64 (H : Int), .int .i64 (M : Int), .int .i64 (n : Int), .int .i64 (kd : Int), .int .i64 (pl : Int)]) ∧ Below w.heap.size w w') := Lib.hid HR0
 have hkI : ¬ (kd : Int) = 0 := by omega
 clear HR0 ht hh hk
 go_enter Tryz.func24, Tryz.ntmps24
 go_wp2_with (first
  | (go_at_call 9; refine (HR.out _).mono ?_; rintro e w1 ⟨rfl, b1⟩; have A1 : RI (w1.alloc (.cells #[.int .i64 (K : Int), .int .i64 (W : Int), .int .i64 (H : Int), .int .i64 (M : Int), .int .i64 (n : Int), .int .i64 (kd : Int), .int .i64 (pl : Int)] 24)) w.heap.size 0 0 (.slice none 0 0) 0 0 := Blk.alloc (Blk.below A0 b1 (Blk.lt A0)) _; have B1' := below_next B0 b1; have B1 := B1'.alloc B1'.size (.cells #[.int .i64 (K : Int), .int .i64 (W : Int), .int .i64 (H : Int), .int .i64 (M : Int), .int .i64 (n : Int), .int .i64 (kd : Int), .int .i64 (pl : Int)] 24))
  | (go_at_call 32; refine (refBadC _ _ _).mono ?_; rintro e w5 ⟨rfl, b5⟩; have f5 : RI w5 w.heap.size 0 0 (.slice none 0 0) 0 0 := Blk.below A1 b5 (Blk.lt A1); obtain ⟨c0, c1, c2, c3, c4, z0, z1, z2, z3, z4, fl⟩ := RI.all f5))
 exact bodyPost_ret (v := .agg #[.int .i64 0, .int .i64 0, .slice none 0 0, .int .i64 (kd : Int), .int .i64 (pl : Int)]) (by simp [results, Tryz.results24, go_sem, c0, c1, c2, c3, c4]) rfl ⟨Below.st5 (below_next B1 b5) (Nat.le_refl _), rfl⟩
set_option maxRecDepth 100000 in
set_option maxHeartbeats 4000000 in
theorem refPnmDec_text {s : ByteArray} {K W H M n : Nat} (hsm : s.size ≤ 1099511627776) (hh : HeadOk s ⟨K, W, H, M, n, 0, 0⟩) (hK : K ≤ 3) (w : World) : Calls Tryz.prog 24 #[.string s] w fun e w' => RefPost (pnmDec s).told w w' e := by
 have A0 : RI (w.alloc (.cells #[.int .i64 0, .int .i64 0, .slice none 0 0, .int .i64 0, .int .i64 0] 28)) w.heap.size 0 0 (.slice none 0 0) 0 0 := Blk.new _ _ _
 have B0 : Below w.heap.size w (w.alloc (.cells #[.int .i64 0, .int .i64 0, .slice none 0 0, .int .i64 0, .int .i64 0] 28)) := (Below.refl _ _).alloc (Nat.le_refl _) _
 have HR0 := fun w => refHead_any s w hsm
 rw [hh.is] at HR0
 have HR : Hid (∀ w : World, Calls Tryz.prog 9 #[.string s] w fun e w' => e = .returned (.agg #[.int .i64 (K : Int), .int .i64 (W : Int), .int .i64 (H : Int), .int .i64 (M : Int), .int .i64 (n : Int), .int .i64 0, .int .i64 0]) ∧ Below w.heap.size w w') := Lib.hid HR0
 have HDOC0 := fun w => docReadT hsm hh hK w
 unfold RefPost at HDOC0
 have HDOC := Lib.hid HDOC0
 have hKI : (K : Int) ≤ 3 := by omega
 have hwz : w.heap.size ≤ (w.alloc (.cells #[.int .i64 0, .int .i64 0, .slice none 0 0, .int .i64 0, .int .i64 0] 28)).heap.size := B0.size
 clear HR0 HDOC0 hh hK
 go_enter Tryz.func24, Tryz.ntmps24
 go_wp2_with (first
  | (go_at_call 9; refine (HR.out _).mono ?_; rintro e w1 ⟨rfl, b1⟩; have A1 : RI (w1.alloc (.cells #[.int .i64 (K : Int), .int .i64 (W : Int), .int .i64 (H : Int), .int .i64 (M : Int), .int .i64 (n : Int), .int .i64 0, .int .i64 0] 24)) w.heap.size 0 0 (.slice none 0 0) 0 0 := Blk.alloc (Blk.below A0 b1 (Blk.lt A0)) _; have B1' := below_next B0 b1; have B1 := B1'.alloc B1'.size (.cells #[.int .i64 (K : Int), .int .i64 (W : Int), .int .i64 (H : Int), .int .i64 (M : Int), .int .i64 (n : Int), .int .i64 0, .int .i64 0] 24))
  | (go_at_call 10; refine (HDOC.out _).mono ?_; rintro e w5 ⟨b5, hD⟩; have f5 : RI w5 w.heap.size 0 0 (.slice none 0 0) 0 0 := Blk.below A1 b5 (Blk.lt A1); have B5 := below_next B1 b5; have hle := B1.size; obtain ⟨Wd, Hd, ra, rn, rc, k, i, rfl, hDn⟩ := refPost_form hD; obtain ⟨c0, c1, c2, c3, c4, z0, z1, z2, z3, z4, fl⟩ := RI.all f5; have HD := Lib.hid hDn; clear hD hDn))
 exact bodyPost_ret (v := .agg #[.int .i64 Wd, .int .i64 Hd, .slice ra rn rc, .int .i64 k, .int .i64 i]) (by simp [results, Tryz.results24, go_sem, c0, c1, c2, c3, c4]) rfl (HD.out.post f5 hle (Below.st5 B5 (Nat.le_refl _)))
set_option maxRecDepth 100000 in
set_option maxHeartbeats 4000000 in
theorem refPnmDec_raw {s : ByteArray} {K W H M n : Nat} (hsm : s.size ≤ 1099511627776) (hh : HeadOk s ⟨K, W, H, M, n, 0, 0⟩) (hK : ¬ K ≤ 3) (w : World) : Calls Tryz.prog 24 #[.string s] w fun e w' => RefPost (pnmDec s).told w w' e := by
 have A0 : RI (w.alloc (.cells #[.int .i64 0, .int .i64 0, .slice none 0 0, .int .i64 0, .int .i64 0] 28)) w.heap.size 0 0 (.slice none 0 0) 0 0 := Blk.new _ _ _
 have B0 : Below w.heap.size w (w.alloc (.cells #[.int .i64 0, .int .i64 0, .slice none 0 0, .int .i64 0, .int .i64 0] 28)) := (Below.refl _ _).alloc (Nat.le_refl _) _
 have HR0 := fun w => refHead_any s w hsm
 rw [hh.is] at HR0
 have HR : Hid (∀ w : World, Calls Tryz.prog 9 #[.string s] w fun e w' => e = .returned (.agg #[.int .i64 (K : Int), .int .i64 (W : Int), .int .i64 (H : Int), .int .i64 (M : Int), .int .i64 (n : Int), .int .i64 0, .int .i64 0]) ∧ Below w.heap.size w w') := Lib.hid HR0
 have HDOC0 := fun w => docReadR hsm hh hK w
 unfold RefPost at HDOC0
 have HDOC := Lib.hid HDOC0
 have hKI : ¬ (K : Int) ≤ 3 := by omega
 have hwz : w.heap.size ≤ (w.alloc (.cells #[.int .i64 0, .int .i64 0, .slice none 0 0, .int .i64 0, .int .i64 0] 28)).heap.size := B0.size
 clear HR0 HDOC0 hh hK
 go_enter Tryz.func24, Tryz.ntmps24
 go_wp2_with (first
  | (go_at_call 9; refine (HR.out _).mono ?_; rintro e w1 ⟨rfl, b1⟩; have A1 : RI (w1.alloc (.cells #[.int .i64 (K : Int), .int .i64 (W : Int), .int .i64 (H : Int), .int .i64 (M : Int), .int .i64 (n : Int), .int .i64 0, .int .i64 0] 24)) w.heap.size 0 0 (.slice none 0 0) 0 0 := Blk.alloc (Blk.below A0 b1 (Blk.lt A0)) _; have B1' := below_next B0 b1; have B1 := B1'.alloc B1'.size (.cells #[.int .i64 (K : Int), .int .i64 (W : Int), .int .i64 (H : Int), .int .i64 (M : Int), .int .i64 (n : Int), .int .i64 0, .int .i64 0] 24))
  | (go_at_call 15; refine (HDOC.out _).mono ?_; rintro e w5 ⟨b5, hD⟩; have f5 : RI w5 w.heap.size 0 0 (.slice none 0 0) 0 0 := Blk.below A1 b5 (Blk.lt A1); have B5 := below_next B1 b5; have hle := B1.size; obtain ⟨Wd, Hd, ra, rn, rc, k, i, rfl, hDn⟩ := refPost_form hD; obtain ⟨c0, c1, c2, c3, c4, z0, z1, z2, z3, z4, fl⟩ := RI.all f5; have HD := Lib.hid hDn; clear hD hDn))
 exact bodyPost_ret (v := .agg #[.int .i64 Wd, .int .i64 Hd, .slice ra rn rc, .int .i64 k, .int .i64 i]) (by simp [results, Tryz.results24, go_sem, c0, c1, c2, c3, c4]) rfl (HD.out.post f5 hle (Below.st5 B5 (Nat.le_refl _)))
theorem refPnmDecode {s : ByteArray} (hsm : s.size ≤ 1099511627776) (w : World) : Calls Tryz.prog 24 #[.string s] w fun e w' => RefPost (pnmDec s).told w w' e := by
 obtain ⟨r, hr⟩ : ∃ r, headAt (nats s) = r := ⟨_, rfl⟩
 have hok := headOk_of (s := s)
 rw [hr] at hok
 obtain ⟨K, W, H, M, n, kd, pl⟩ := r
 by_cases h0 : kd = 0
 ·have hh := hok h0
  have hp : pl = 0 := by
   have hg := headAt_good (nats s)
   rw [hr] at hg
   rcases hg with ⟨kd', pl', e, hk, _⟩ | ⟨K', W', H', M', n', e, _⟩
   ·exact absurd ((congrArg HeadR.Kind e).symm.trans h0) hk
   ·exact congrArg HeadR.Place e
  subst h0 hp
  by_cases hK : K ≤ 3
  ·exact refPnmDec_text hsm hh hK w
  ·exact refPnmDec_raw hsm hh hK w
 ·exact refPnmDec_bad hsm hr h0 w
end Go.Proofs.YtgmgcfjllijhgaaGreat
