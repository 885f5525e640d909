/- The law PnmrawReads. -/
import Derived.Test.YtgmgcfjllijhgaaGreatJPnmLw14
import Derived.Test.YtgmgcfjllijhgaaGreatJPnmRef
import Derived.Test.YtgmgcfjllijhgaaGreatJPnmDc
namespace Go.Proofs.YtgmgcfjllijhgaaGreat
open Go.RowKit
set_option linter.unusedVariables false
set_option linter.unusedSimpArgs false

theorem docRead {s : ByteArray} {K W H M n : Nat} (hsm : s.size ≤ 1099511627776) (hh : HeadOk s ⟨K, W, H, M, n, 0, 0⟩) (hK : ¬ K ≤ 3) (w : World) : Calls Tryz.prog 15 #[.string s, .agg #[.int .i64 (K : Int), .int .i64 (W : Int), .int .i64 (H : Int), .int .i64 (M : Int), .int .i64 (n : Int), .int .i64 0, .int .i64 0]] w fun e w' => RefPost (pnmDec s).told w w' e := by
  have ht : (pnmDec s).told = bodyR s ⟨K, W, H, M, n, 0, 0⟩ := by
    rw [pnmDec_told, hh.is, if_neg (by simp)]
  rw [ht]
  unfold bodyR
  rw [if_neg hK]
  have hK6 : K ≤ 6 := hh.K.2
  match K, hK, hK6, hh with
  | 4, _, _, hh =>
    rw [if_pos rfl]
    exact docRaw_four hsm hh rfl w
  | 5, _, _, hh =>
    rw [if_neg (by simp)]
    exact docRaw_five hsm hh rfl rfl w
  | 6, _, _, hh =>
    rw [if_neg (by simp)]
    exact docRaw_six hsm hh rfl rfl w
theorem pixsR_img {σ : Type} {W H W' H' : Nat} {l : List UInt8} {step : σ → Out (Qc × σ)} : ∀ (m : Nat) (t : σ) (L : List Qc), pixsR W H step m t L = .img W' H' l → W' = W ∧ H' = H
  | 0, t, L, h => by unfold pixsR at h; injection h with h1 h2 _; exact ⟨h1.symm, h2.symm⟩
  | m + 1, t, L, h => by
    unfold pixsR at h
    cases hs : step t with
    | inl b => rw [hs] at h; cases h
    | inr r => rw [hs] at h; exact pixsR_img m _ _ h
theorem told_sides {s : ByteArray} {h : HeadR} {W' H' : Nat} {l : List UInt8} (hh : HeadOk s h) (ht : (pnmDec s).told = .img W' H' l) : W' = h.W ∧ H' = h.H := by
  rw [pnmDec_told, hh.is, if_neg (by rw [hh.kind]; simp)] at ht
  unfold bodyR at ht
  split at ht
  · exact pixsR_img _ _ _ ht
  · split at ht
    · exact pixsR_img _ _ _ ht
    · exact pixsR_img _ _ _ ht
section
variable {P : Program} {ops : Array Oper} {Q : Exit → Act → World → Prop} {md : Region.Mode} {S : World → Prop}
theorem AllReadyH.cons_aye {fuel : Nat} {listed : Array Bool} {a : Act} {w : World} {i : Nat} {o : Oper} {rs : List Nat} (ho : ops[i]? = some o) (hw : Region.wanted o (yielded ops a.tmps) = true)
    (h : ∀ K' : Act → World → Prop, Shut (∀ a w, S w → (S w → wpAnyH P md ops Q S fuel (listed.setIfInBounds i true) a w) → K' a w) → Oper.wp P o a w K' Q) (hs : AllReadyH P md ops Q S fuel listed a w rs) : AllReadyH P md ops Q S fuel listed a w (i :: rs) :=
  AllReadyH.cons ho (fun K' hK => by rw [if_pos hw]; exact h K' hK) hs
end
/-- a fault that is told is one -/
theorem lawFault {s : ByteArray} {h : HeadR} {k a : Nat} (hh : HeadOk s h) (hK : ¬ h.K ≤ 3) (hW : h.W ≤ 100) (hH : h.H ≤ 100) (hs : s.size ≤ 20000) (hsm : s.size ≤ 1099511627776) (ht : (pnmDec s).told = .bad k a) : k ≠ 0 := by
  rw [pnmDec_told, hh.is, if_neg (by rw [hh.kind]; simp)] at ht
  unfold bodyR at ht
  rw [if_neg hK] at ht
  have key : ∀ {σ : Type} {st : σ → Out (Qc × σ)} (hst : ∀ t b, st t = .inl b → b.1 ≠ 0) (m : Nat) (t : σ) (L : List Qc), pixsR h.W h.H st m t L = .bad k a → k ≠ 0 := by
    intro σ st hst m
    induction m with
    | zero => intro t L hp; unfold pixsR at hp; cases hp
    | succ m ih =>
      intro t L hq
      unfold pixsR at hq
      cases hp : st t with
      | inl b =>
        rw [hp] at hq
        have hb := hst t b hp
        obtain ⟨hk, _⟩ := DRes.bad_inj hq
        rw [← hk]
        exact hb
      | inr r => rw [hp] at hq; exact ih _ _ hq
  split at ht
  · refine key (fun t b hb => ?_) _ _ _ ht
    unfold bpixR at hb
    split at hb
    · split at hb
      · cases hb
      · injection hb with hb; subst hb; simp
    · cases hb
  · exact key (fun t b hb => rpixR_ne hb) _ _ _ ht
def LawS3 (w : World) (qf qm qr : Nat) (W H : Int) (a : Option Addr) (n c : Nat) (v : Value) : Prop := w.cell? ⟨qf, 0, none⟩ = some (.int .i64 0) ∧ w.cell? ⟨qf, 1, none⟩ = some (.int .i64 0) ∧ w.cell? ⟨qf, 2, none⟩ = some (.int .i64 0) ∧ w.cell? ⟨qm, 0, none⟩ = some (.int .i64 W) ∧ w.cell? ⟨qm, 1, none⟩ = some (.int .i64 H) ∧ w.cell? ⟨qm, 2, none⟩ = some (.slice a n c) ∧
  w.cell? ⟨qr, 0, none⟩ = some (.int .i64 W) ∧ w.cell? ⟨qr, 1, none⟩ = some (.int .i64 H) ∧ w.cell? ⟨qr, 2, none⟩ = some v ∧ w.cell? ⟨qr, 3, none⟩ = some (.int .i64 0) ∧ w.cell? ⟨qr, 4, none⟩ = some (.int .i64 0)
theorem LawS3.of {w : World} {qf qm qr : Nat} {W H : Int} {a : Option Addr} {n c : Nat} {v : Value} (F : FB w qf 0 0 0) (I : IB w qm W H a n c) (R : RI w qr W H v 0 0) : LawS3 w qf qm qr W H a n c v :=
  ⟨Blk.cell F 0, Blk.cell F 1, Blk.cell F 2, Blk.cell I 0, Blk.cell I 1, Blk.cell I 2, Blk.cell R 0, Blk.cell R 1, Blk.cell R 2, Blk.cell R 3, Blk.cell R 4⟩
set_option maxRecDepth 100000 in
set_option maxHeartbeats 4000000 in
theorem pnmrawReads_no {s : ByteArray} (hs : s.size ≤ 600) {K W H M n kd pl : Nat} (hh : headAt (nats s) = ⟨K, W, H, M, n, kd, pl⟩) (hc : kd ≠ 0 ∨ kd = 0 ∧ (K < 4 ∨ ¬ K < 4 ∧ (100 < W ∨ W ≤ 100 ∧ 100 < H))) (w : World) : Calls Tryz.prog 4 #[.string s] w fun e w' => e = .returned (.bool true) ∧ Below w.heap.size w w' := by
  have hsI : ¬ (600 : Int) < (s.size : Int) := by omega
  have HR0 := fun w => refHead_any s w (by omega)
  rw [hh] at HR0
  have HR : Hid (∀ w : World, Calls Tryz.prog 9 #[.string s] w fun e w' => e = .returned (.agg #[.int .i64 (K : Int), .int .i64 (W : Int), .int .i64 (H : Int), .int .i64 (M : Int), .int .i64 (n : Int), .int .i64 (kd : Int), .int .i64 (pl : Int)]) ∧ Below w.heap.size w w') := Lib.hid HR0
  clear HR0 hh hs
  rcases hc with h0 | ⟨rfl, h1 | ⟨h1, h2 | ⟨h2, h3⟩⟩⟩
  · have i0 : ¬ (kd : Int) = 0 := by omega
    clear h0
    go_enter Tryz.func4, Tryz.ntmps4
    go_wp2_with (first
      | (go_at_call 9; refine (HR.out _).mono ?_; rintro e w1 ⟨rfl, b1⟩)
      | (go_at_call 14; refine (awake14_any _).mono ?_; rintro e w9 ⟨rfl, b9⟩))
    go_ret
    exact ⟨rfl, below_next (b1.alloc b1.size _) b9⟩
  · have i1 : (K : Int) < 4 := by omega
    clear h1
    go_enter Tryz.func4, Tryz.ntmps4
    go_wp2_with (first
      | (go_at_call 9; refine (HR.out _).mono ?_; rintro e w1 ⟨rfl, b1⟩)
      | (go_at_call 14; refine (awake14_any _).mono ?_; rintro e w9 ⟨rfl, b9⟩))
    go_ret
    exact ⟨rfl, below_next (b1.alloc b1.size _) b9⟩
  · have i1 : ¬ (K : Int) < 4 := by omega
    have i2 : (100 : Int) < (W : Int) := by omega
    clear h1 h2
    go_enter Tryz.func4, Tryz.ntmps4
    go_wp2_with (first
      | (go_at_call 9; refine (HR.out _).mono ?_; rintro e w1 ⟨rfl, b1⟩)
      | (go_at_call 14; refine (awake14_any _).mono ?_; rintro e w9 ⟨rfl, b9⟩))
    go_ret
    exact ⟨rfl, below_next (b1.alloc b1.size _) b9⟩
  · have i1 : ¬ (K : Int) < 4 := by omega
    have i2 : ¬ (100 : Int) < (W : Int) := by omega
    have i3 : (100 : Int) < (H : Int) := by omega
    clear h1 h2 h3
    go_enter Tryz.func4, Tryz.ntmps4
    go_wp2_with (first
      | (go_at_call 9; refine (HR.out _).mono ?_; rintro e w1 ⟨rfl, b1⟩)
      | (go_at_call 14; refine (awake14_any _).mono ?_; rintro e w9 ⟨rfl, b9⟩))
    go_ret
    exact ⟨rfl, below_next (b1.alloc b1.size _) b9⟩
set_option maxRecDepth 100000 in
set_option maxHeartbeats 8000000 in
theorem pnmrawReads_in {s : ByteArray} (hs : s.size ≤ 600) {K W H M n : Nat} (hh : HeadOk s ⟨K, W, H, M, n, 0, 0⟩) (hK : ¬ K ≤ 3) (hW : W ≤ 100) (hH : H ≤ 100) (w : World) : Calls Tryz.prog 4 #[.string s] w fun e w' => e = .returned (.bool true) ∧ Below w.heap.size w w' := by
  have hsI : ¬ (600 : Int) < (s.size : Int) := by omega
  have hKI : ¬ (K : Int) < 4 := by omega
  have hWI : ¬ (100 : Int) < (W : Int) := by omega
  have hHI : ¬ (100 : Int) < (H : Int) := by omega
  have hsm : s.size ≤ 1099511627776 := by omega
  have HR0 := fun w => refHead_any s w hsm
  rw [hh.is] at HR0
  have HR : Hid (∀ w : World, Calls Tryz.prog 9 #[.string s] w fun e w' => e = .returned (.agg #[.int .i64 (K : Int), .int .i64 (W : Int), .int .i64 (H : Int), .int .i64 (M : Int), .int .i64 (n : Int), .int .i64 0, .int .i64 0]) ∧ Below w.heap.size w w') := Lib.hid HR0
  have HDOC := Lib.hid (fun w => docRead hsm hh hK w)
  have HN := Lib.hid (fun w => readC14 (s := s) (h := ⟨K, W, H, M, n, 0, 0⟩) (wk := 100000) (x0 := Led.new 100 100 40000 100000) rfl (by constructor <;> decide) rfl rfl hsm hh hK hW hH w)
  have hWH : W * H ≤ 100 * 100 := Nat.mul_le_mul hW hH
  have hW1 : 1 ≤ W := hh.W.1
  have hH1 : 1 ≤ H := hh.H.1
  have hWH1 : 1 ≤ W * H := Nat.mul_le_mul hW1 hH1
  have HWH : Hid (1 ≤ W * H ∧ W * H ≤ 268435456) := Lib.hid ⟨hWH1, by omega⟩
  have HH : Hid (HeadOk s ⟨K, W, H, M, n, 0, 0⟩ ∧ W ≤ 100 ∧ H ≤ 100 ∧ ((s.size + W * H * 7 + 9 : Nat) : Int) ≤ 100000) := Lib.hid ⟨hh, hW, hH, by omega⟩
  obtain ⟨D, hD⟩ : ∃ D, (pnmDec s).told = D := ⟨_, rfl⟩
  have hne := fun k a => told_ne (k := k) (a := a) _ 0 (pnmDec_bal s)
  rw [hD] at HDOC hne
  have hsd : ∀ W' H' l, D = .img W' H' l → W = W' ∧ H = H' := fun W' H' l h => ⟨(told_sides hh (hD.trans h)).1.symm, (told_sides hh (hD.trans h)).2.symm⟩
  have hfault : ∀ k a, D = .bad k a → k ≠ 0 := fun k a h => by
    have h2 := lawFault hh hK hW hH (by omega) hsm (hD.trans h)
    exact h2
  have HT := Lib.hid hD
  clear HR0 hh hK hW hH hWH hs hsm hD hWH1 hW1 hH1
  cases D with
  | bad k a =>
    have hk0 := hfault k a rfl
    have hkI : ¬ (k : Int) = 0 := by omega
    unfold RefPost at HDOC
    clear hne hsd hfault hk0
    go_enter Tryz.func4, Tryz.ntmps4
    go_upto_region 7 with (first
      | (go_at_call 9; refine (HR.out _).mono ?_; rintro e w1 ⟨rfl, b1⟩)
      | (go_at_call 15; refine (HDOC.out _).mono ?_; rintro e w4 ⟨b4, rfl⟩))
    have B5 : Below w.heap.size w (w4.alloc (.cells #[.int .i64 0, .int .i64 0, .slice none 0 0, .int .i64 (k : Int), .int .i64 (a : Int)] 28)) := by
      have h := below_next (b1.alloc b1.size (.cells #[.int .i64 (K : Int), .int .i64 (W : Int), .int .i64 (H : Int), .int .i64 (M : Int), .int .i64 (n : Int), .int .i64 0, .int .i64 0] 24)) b4
      exact h.alloc h.size _
    have R5 : RI (w4.alloc (.cells #[.int .i64 0, .int .i64 0, .slice none 0 0, .int .i64 (k : Int), .int .i64 (a : Int)] 28)) w4.heap.size 0 0 (.slice none 0 0) (k : Int) (a : Int) := Blk.new _ _ _
    clear b1 b4
    generalize w4.alloc (.cells #[.int .i64 0, .int .i64 0, .slice none 0 0, .int .i64 (k : Int), .int .i64 (a : Int)] 28) = w5 at B5 R5 ⊢
    generalize w4.heap.size = qr at R5 ⊢
    go_upto_region 8 with (go_at_call 16; refine (HN.out _).mono ?_; rintro e w7 h7; obtain ⟨g7, b7, hor⟩ := lawFull HH.out.1 HH.out.2.1 HH.out.2.2.1 HH.out.2.2.2 h7; unfold LawTold x0V at hor; rw [HT.out] at hor; obtain ⟨k', a', _, _, hr, rfl⟩ := hor.elim id (fun ⟨_, _, _, _, h, _⟩ => by cases h); obtain ⟨rfl, rfl⟩ := DRes.bad_inj hr)
    have I8 : IB ((w7.alloc (.cells #[.int .i64 0, .int .i64 0, .slice none 0 0] 32)).alloc (.cells #[.int .i64 (k : Int), .int .i64 3, .int .i64 (a : Int)] 34)) w7.heap.size 0 0 none 0 0 := Blk.alloc (Blk.new _ _ _) _
    have F8 : FB ((w7.alloc (.cells #[.int .i64 0, .int .i64 0, .slice none 0 0] 32)).alloc (.cells #[.int .i64 (k : Int), .int .i64 3, .int .i64 (a : Int)] 34)) (w7.heap.size + 1) (k : Int) 3 (a : Int) := Blk.new_at _ _ _ (by simp)
    have R8 : RI ((w7.alloc (.cells #[.int .i64 0, .int .i64 0, .slice none 0 0] 32)).alloc (.cells #[.int .i64 (k : Int), .int .i64 3, .int .i64 (a : Int)] 34)) qr 0 0 (.slice none 0 0) (k : Int) (a : Int) := Blk.alloc (Blk.alloc (Blk.below R5 b7 (Blk.lt R5)) _) _
    have B7 := below_next B5 b7
    have B8 : Below w.heap.size w ((w7.alloc (.cells #[.int .i64 0, .int .i64 0, .slice none 0 0] 32)).alloc (.cells #[.int .i64 (k : Int), .int .i64 3, .int .i64 (a : Int)] 34)) := (B7.alloc B7.size _).alloc (by have := B7.size; simp; omega) _
    clear h7 hor B7 R5 B5 b7
    try clear hr
    generalize (w7.alloc (.cells #[.int .i64 0, .int .i64 0, .slice none 0 0] 32)).alloc (.cells #[.int .i64 (k : Int), .int .i64 3, .int .i64 (a : Int)] 34) = w8 at I8 F8 R8 B8  ⊢
    generalize w7.heap.size + 1 = qf at F8 ⊢
    generalize w7.heap.size = qm at I8 ⊢
    obtain ⟨c0, c1, c2, z0, z1, z2, fl⟩ := FB.all F8
    obtain ⟨d0, d1, d2, d3, d4, y0, y1, y2, y3, y4, dl⟩ := RI.all R8
    go_wp2_with (go_at_call 14; refine (awake14_any _).mono ?_; rintro e w9 ⟨rfl, b9⟩)
    go_ret
    exact ⟨rfl, below_next B8 b9⟩
  | img W' H' l =>
    obtain ⟨rfl, rfl⟩ := hsd _ _ _ rfl
    obtain ⟨z, hz⟩ : ∃ z, l.length = z := ⟨_, rfl⟩
    have HZ := Lib.hid hz
    unfold RefPost at HDOC
    clear hne hsd hfault hz
    go_enter Tryz.func4, Tryz.ntmps4
    go_upto_region 7 with (first
      | (go_at_call 9; refine (HR.out _).mono ?_; rintro e w1 ⟨rfl, b1⟩)
      | (go_at_call 15; refine (HDOC.out _).mono ?_; rintro e w4 ⟨b4, v, L, rfl, own, hfl, hLn⟩; rcases own.form with ⟨_, hnil⟩ | ⟨gq, cap, rfl, hgq, hgw, hcap, Q4⟩; (exfalso; rw [hnil] at hLn; have := HWH.out; simp at hLn; omega); generalize hN : L.length = N at hcap ⊢; have HNB : Hid (N ≤ 268435456) := Lib.hid (by rw [← hN, hLn]; exact HWH.out.2); have HFL := Lib.hid hfl; have HLN := Lib.hid hN; clear hfl hN hLn own hgq hgw))
    have Q5 : QAt (w4.alloc (.cells #[.int .i64 (W : Int), .int .i64 (H : Int), .slice (some ⟨gq, 0, none⟩) N cap, .int .i64 0, .int .i64 0] 28)) gq 0 L := Q4.below ((Below.refl _ _).alloc (Nat.le_refl _) _)
    clear Q4
    have B5 : Below w.heap.size w (w4.alloc (.cells #[.int .i64 (W : Int), .int .i64 (H : Int), .slice (some ⟨gq, 0, none⟩) N cap, .int .i64 0, .int .i64 0] 28)) := by
      have h := below_next (b1.alloc b1.size (.cells #[.int .i64 (K : Int), .int .i64 (W : Int), .int .i64 (H : Int), .int .i64 (M : Int), .int .i64 (n : Int), .int .i64 0, .int .i64 0] 24)) b4
      exact h.alloc h.size _
    have R5 : RI (w4.alloc (.cells #[.int .i64 (W : Int), .int .i64 (H : Int), .slice (some ⟨gq, 0, none⟩) N cap, .int .i64 0, .int .i64 0] 28)) w4.heap.size (W : Int) (H : Int) (.slice (some ⟨gq, 0, none⟩) N cap) 0 0 := Blk.new _ _ _
    clear b1 b4
    generalize w4.alloc (.cells #[.int .i64 (W : Int), .int .i64 (H : Int), .slice (some ⟨gq, 0, none⟩) N cap, .int .i64 0, .int .i64 0] 28) = w5 at B5 R5 Q5 ⊢
    generalize w4.heap.size = qr at R5 ⊢
    go_upto_region 8 with (go_at_call 16; refine (HN.out _).mono ?_; rintro e w7 h7; obtain ⟨g7, b7, hor⟩ := lawFull HH.out.1 HH.out.2.1 HH.out.2.2.1 HH.out.2.2.2 h7; unfold LawTold imgRet at hor; rw [HT.out] at hor; obtain ⟨W2, H2, m2, d, hr, rfl, hbt7⟩ := hor.elim (fun ⟨_, _, _, _, h, _⟩ => by cases h) id; injection hr with hr1 hr2 hr3; subst hr1 hr2 hr3; rw [HZ.out] at hbt7 ⊢)
    have I8 : IB ((w7.alloc (.cells #[.int .i64 (W : Int), .int .i64 (H : Int), .slice (some ⟨d, 0, none⟩) z z] 32)).alloc (.cells #[.int .i64 0, .int .i64 0, .int .i64 0] 34)) w7.heap.size (W : Int) (H : Int) (some ⟨d, 0, none⟩) z z := Blk.alloc (Blk.new _ _ _) _
    have F8 : FB ((w7.alloc (.cells #[.int .i64 (W : Int), .int .i64 (H : Int), .slice (some ⟨d, 0, none⟩) z z] 32)).alloc (.cells #[.int .i64 0, .int .i64 0, .int .i64 0] 34)) (w7.heap.size + 1) 0 0 0 := Blk.new_at _ _ _ (by simp)
    have R8 : RI ((w7.alloc (.cells #[.int .i64 (W : Int), .int .i64 (H : Int), .slice (some ⟨d, 0, none⟩) z z] 32)).alloc (.cells #[.int .i64 0, .int .i64 0, .int .i64 0] 34)) qr (W : Int) (H : Int) (.slice (some ⟨gq, 0, none⟩) N cap) 0 0 := Blk.alloc (Blk.alloc (Blk.below R5 b7 (Blk.lt R5)) _) _
    have B7 := below_next B5 b7
    have B8 : Below w.heap.size w ((w7.alloc (.cells #[.int .i64 (W : Int), .int .i64 (H : Int), .slice (some ⟨d, 0, none⟩) z z] 32)).alloc (.cells #[.int .i64 0, .int .i64 0, .int .i64 0] 34)) := (B7.alloc B7.size _).alloc (by have := B7.size; simp; omega) _
    have T8 := (hbt7.alloc (.cells #[.int .i64 (W : Int), .int .i64 (H : Int), .slice (some ⟨d, 0, none⟩) z z] 32)).alloc (.cells #[.int .i64 0, .int .i64 0, .int .i64 0] 34)
    have Q8 : QAt ((w7.alloc (.cells #[.int .i64 (W : Int), .int .i64 (H : Int), .slice (some ⟨d, 0, none⟩) z z] 32)).alloc (.cells #[.int .i64 0, .int .i64 0, .int .i64 0] 34)) gq 0 L := (Q5.below b7).below (((Below.refl _ _).alloc (Nat.le_refl _) _).alloc (by simp) _)
    clear hbt7 Q5
    clear h7 hor B7 R5 B5 b7
    try clear hr
    generalize (w7.alloc (.cells #[.int .i64 (W : Int), .int .i64 (H : Int), .slice (some ⟨d, 0, none⟩) z z] 32)).alloc (.cells #[.int .i64 0, .int .i64 0, .int .i64 0] 34) = w8 at I8 F8 R8 B8 T8 Q8 ⊢
    generalize w7.heap.size + 1 = qf at F8 ⊢
    generalize w7.heap.size = qm at I8 ⊢
    obtain ⟨c0, c1, c2, z0, z1, z2, fl⟩ := FB.all F8
    obtain ⟨d0, d1, d2, d3, d4, y0, y1, y2, y3, y4, dl⟩ := RI.all R8
    go_upto_region 12 with fail
    have HH8 := Lib.hid (And.intro F8 (And.intro I8 (And.intro R8 (And.intro T8 (And.intro Q8 B8)))))
    clear F8 I8 R8 T8 Q8 B8 c0 c1 c2 z0 z1 z2 fl d0 d1 d2 d3 d4 y0 y1 y2 y3 y4 dl
    refine wp_region_held_drew (S := fun w => LawS3 w qf qm qr (W : Int) (H : Int) (some ⟨d, 0, none⟩) z z (.slice (some ⟨gq, 0, none⟩) N cap)) (by kernel_rfl) (LawS3.of (Blk.drew HH8.out.1) (Blk.drew HH8.out.2.1) (Blk.drew HH8.out.2.2.1)) (fun hHeld => ?_)
    refine wpAnyH_take (i := 0) (v := ?_) rfl (by kernel_rfl) (by kernel_rfl) (by kernel_rfl) (fun _ _ _ h => h) (Or.inl ⟨by kernel_rfl, ?_⟩) (by assumption) ?_
    rotate_left
    · intro w hSw; obtain ⟨s0, s1, s2, s3, s4, s5, s6, s7, s8, s9, s10⟩ := hSw; go_simp; (try with_reducible rfl)
    (try simp only [Act.put, List.getElem_toArray, List.getElem_cons_succ, List.getElem_cons_zero, List.setIfInBounds_toArray, List.set_cons_zero, List.set_cons_succ])
    refine wpAnyH_take (i := 1) (v := ?_) rfl (by kernel_rfl) (by kernel_rfl) (by kernel_rfl) (fun _ _ _ h => h) (Or.inl ⟨by kernel_rfl, ?_⟩) (by assumption) ?_
    rotate_left
    · intro w hSw; obtain ⟨s0, s1, s2, s3, s4, s5, s6, s7, s8, s9, s10⟩ := hSw; go_simp; (try with_reducible rfl)
    (try simp only [Act.put, List.getElem_toArray, List.getElem_cons_succ, List.getElem_cons_zero, List.setIfInBounds_toArray, List.set_cons_zero, List.set_cons_succ])
    refine wpAnyH_take (i := 2) (v := ?_) rfl (by kernel_rfl) (by kernel_rfl) (by kernel_rfl) (fun _ _ _ h => h) (Or.inl ⟨by kernel_rfl, ?_⟩) (by assumption) ?_
    rotate_left
    · intro w hSw; obtain ⟨s0, s1, s2, s3, s4, s5, s6, s7, s8, s9, s10⟩ := hSw; go_simp; (try with_reducible rfl)
    (try simp only [Act.put, List.getElem_toArray, List.getElem_cons_succ, List.getElem_cons_zero, List.setIfInBounds_toArray, List.set_cons_zero, List.set_cons_succ])
    refine wpAnyH_take (i := 3) (v := ?_) rfl (by kernel_rfl) (by kernel_rfl) (by kernel_rfl) (fun _ _ _ h => h) (Or.inl ⟨by kernel_rfl, ?_⟩) (by assumption) ?_
    rotate_left
    · intro w hSw; obtain ⟨s0, s1, s2, s3, s4, s5, s6, s7, s8, s9, s10⟩ := hSw; go_simp; (try with_reducible rfl)
    (try simp only [Act.put, List.getElem_toArray, List.getElem_cons_succ, List.getElem_cons_zero, List.setIfInBounds_toArray, List.set_cons_zero, List.set_cons_succ])
    refine wpAnyH_take (i := 4) (v := ?_) rfl (by kernel_rfl) (by kernel_rfl) (by kernel_rfl) (fun _ _ _ h => h) (Or.inl ⟨by kernel_rfl, ?_⟩) (by assumption) ?_
    rotate_left
    · intro w hSw; obtain ⟨s0, s1, s2, s3, s4, s5, s6, s7, s8, s9, s10⟩ := hSw; go_simp; (try with_reducible rfl)
    (try simp only [Act.put, List.getElem_toArray, List.getElem_cons_succ, List.getElem_cons_zero, List.setIfInBounds_toArray, List.set_cons_zero, List.set_cons_succ])
    refine wpAnyH_take (i := 5) (v := ?_) rfl (by kernel_rfl) (by kernel_rfl) (by kernel_rfl) (fun _ _ _ h => h) (Or.inl ⟨by kernel_rfl, ?_⟩) (by assumption) ?_
    rotate_left
    · intro w hSw; obtain ⟨s0, s1, s2, s3, s4, s5, s6, s7, s8, s9, s10⟩ := hSw; go_simp; (try with_reducible rfl)
    (try simp only [Act.put, List.getElem_toArray, List.getElem_cons_succ, List.getElem_cons_zero, List.setIfInBounds_toArray, List.set_cons_zero, List.set_cons_succ])
    refine wpAnyH_ready (rs := [6]) (by kernel_rfl) (by simp) ?_
    refine AllReadyH.cons_aye rfl (by kernel_rfl) (fun K hK => ?_) AllReadyH.nil
    go_simp
    refine (refPlain (w := w8.drew) HLN.out.symm hcap HNB.out HH8.out.2.2.2.2.1).mono ?_
    rintro e wp ⟨dp, cp, rfl, tp, bp⟩
    rw [HFL.out] at tp
    have Fp : FB wp qf 0 0 0 := Blk.below (Blk.drew HH8.out.1) bp (Blk.lt HH8.out.1)
    have Ip : IB wp qm (W : Int) (H : Int) (some ⟨d, 0, none⟩) z z := Blk.below (Blk.drew HH8.out.2.1) bp (Blk.lt HH8.out.2.1)
    have Rp : RI wp qr (W : Int) (H : Int) (.slice (some ⟨gq, 0, none⟩) N cap) 0 0 := Blk.below (Blk.drew HH8.out.2.2.1) bp (Blk.lt HH8.out.2.2.1)
    have Tp := BytesAt.below (w := w8.drew) HH8.out.2.2.2.1 bp
    have Bp := below_next HH8.out.2.2.2.2.2.drew bp
    refine hK.out _ _ (LawS3.of Fp Ip Rp) (fun hHeld' => ?_)
    clear hK K hHeld
    have hHeld := hHeld'
    clear hHeld'
    (try simp only [Act.put, List.getElem_toArray, List.getElem_cons_succ, List.getElem_cons_zero, List.setIfInBounds_toArray, List.set_cons_zero, List.set_cons_succ])
    refine wpAnyH_ready (rs := [7]) (by kernel_rfl) (by simp) ?_
    refine AllReadyH.cons_aye rfl (by kernel_rfl) (fun K hK => ?_) AllReadyH.nil
    go_simp
    refine (refSame_bool (same_self _ _ _) Tp tp).mono ?_
    rintro e wq ⟨rfl, bq⟩
    have Bq := below_next Bp bq
    have Fq : FB wq qf 0 0 0 := Blk.below Fp bq (Blk.lt Fp)
    have Iq : IB wq qm (W : Int) (H : Int) (some ⟨d, 0, none⟩) z z := Blk.below Ip bq (Blk.lt Ip)
    have Rq : RI wq qr (W : Int) (H : Int) (.slice (some ⟨gq, 0, none⟩) N cap) 0 0 := Blk.below Rp bq (Blk.lt Rp)
    refine hK.out _ _ (LawS3.of Fq Iq Rq) (fun hHeld' => ?_)
    clear hK K hHeld
    have hHeld := hHeld'
    clear hHeld'
    (try simp only [Act.put, List.getElem_toArray, List.getElem_cons_succ, List.getElem_cons_zero, List.setIfInBounds_toArray, List.set_cons_zero, List.set_cons_succ])
    refine wpAnyH_take (i := 8) (v := ?_) rfl (by kernel_rfl) (by kernel_rfl) (by kernel_rfl) (fun _ _ _ h => h) (Or.inl ⟨by kernel_rfl, ?_⟩) (by assumption) ?_
    rotate_left
    · intro w hSw; obtain ⟨s0, s1, s2, s3, s4, s5, s6, s7, s8, s9, s10⟩ := hSw; go_simp; (try with_reducible rfl)
    (try simp only [Act.put, List.getElem_toArray, List.getElem_cons_succ, List.getElem_cons_zero, List.setIfInBounds_toArray, List.set_cons_zero, List.set_cons_succ])
    refine wpAnyH_take (i := 9) (v := ?_) rfl (by kernel_rfl) (by kernel_rfl) (by kernel_rfl) (fun _ _ _ h => h) (Or.inl ⟨by kernel_rfl, ?_⟩) (by assumption) ?_
    rotate_left
    · intro w hSw; obtain ⟨s0, s1, s2, s3, s4, s5, s6, s7, s8, s9, s10⟩ := hSw; go_simp; (try with_reducible rfl)
    (try simp only [Act.put, List.getElem_toArray, List.getElem_cons_succ, List.getElem_cons_zero, List.setIfInBounds_toArray, List.set_cons_zero, List.set_cons_succ])
    refine wpAnyH_ready (rs := [10]) (by kernel_rfl) (by simp) ?_
    refine AllReadyH.cons_aye rfl (by kernel_rfl) (fun K hK => ?_) AllReadyH.nil
    go_simp
    refine (awake14_any _).mono ?_
    rintro e w9 ⟨rfl, b9⟩
    refine hK.out _ _ (LawS3.of (Blk.below Fq b9 (Blk.lt Fq)) (Blk.below Iq b9 (Blk.lt Iq)) (Blk.below Rq b9 (Blk.lt Rq))) (fun hHeld' => ?_)
    clear hK K hHeld
    have hHeld := hHeld'
    clear hHeld'
    (try simp only [Act.put, List.getElem_toArray, List.getElem_cons_succ, List.getElem_cons_zero, List.setIfInBounds_toArray, List.set_cons_zero, List.set_cons_succ])
    refine wpAnyH_take (i := 11) (v := ?_) rfl (by kernel_rfl) (by kernel_rfl) (by kernel_rfl) (fun _ _ _ h => h) (Or.inl ⟨by kernel_rfl, ?_⟩) (by assumption) ?_
    rotate_left
    · intro w hSw; obtain ⟨s0, s1, s2, s3, s4, s5, s6, s7, s8, s9, s10⟩ := hSw; go_simp; (try with_reducible rfl)
    (try simp only [Act.put, List.getElem_toArray, List.getElem_cons_succ, List.getElem_cons_zero, List.setIfInBounds_toArray, List.set_cons_zero, List.set_cons_succ])
    refine wpAnyH_take (i := 12) (v := ?_) rfl (by kernel_rfl) (by kernel_rfl) (by kernel_rfl) (fun _ _ _ h => h) (Or.inl ⟨by kernel_rfl, ?_⟩) (by assumption) ?_
    rotate_left
    · intro w hSw; obtain ⟨s0, s1, s2, s3, s4, s5, s6, s7, s8, s9, s10⟩ := hSw; go_simp; (try with_reducible rfl)
    (try simp only [Act.put, List.getElem_toArray, List.getElem_cons_succ, List.getElem_cons_zero, List.setIfInBounds_toArray, List.set_cons_zero, List.set_cons_succ])
    refine wpAnyH_done (by kernel_rfl) ?_ _
    (try simp only [List.getElem_toArray, List.getElem_cons_succ, List.getElem_cons_zero, List.set_cons_zero, List.set_cons_succ])
    go_wp2_with fail
    go_ret
    exact ⟨rfl, below_next Bq b9⟩
theorem pnmrawReads_said (w : World) (s : ByteArray) (hs : s.size ≤ maxLen) :
    Calls Tryz.prog 4 #[.string s] w fun e w' => e = .returned (.bool true) ∧ Below w.heap.size w w' := by
  clear hs
  by_cases h : s.size ≤ 600
  · obtain ⟨r, hr⟩ : ∃ r, headAt (nats s) = r := ⟨_, rfl⟩
    have hok := headOk_of (s := s)
    rw [hr] at hok
    obtain ⟨K, W, H, M, n, kd, pl⟩ := r
    by_cases h0 : kd = 0
    · by_cases h1 : ¬ K ≤ 3
      · by_cases h2 : W ≤ 100
        · by_cases h3 : H ≤ 100
          · have hh := hok h0
            have hp : pl = 0 := by
              have hg := headAt_good (nats s)
              rw [hr] at hg
              rcases hg with ⟨kd', pl', e, hk, _⟩ | ⟨K', W', H', M', n', e, _⟩
              · exact absurd ((congrArg HeadR.Kind e).symm.trans h0) hk
              · exact congrArg HeadR.Place e
            subst h0 hp
            exact pnmrawReads_in h hh h1 h2 h3 w
          · exact pnmrawReads_no h hr (.inr ⟨h0, .inr ⟨by omega, .inr ⟨h2, by omega⟩⟩⟩) w
        · exact pnmrawReads_no h hr (.inr ⟨h0, .inr ⟨by omega, .inl (by omega)⟩⟩) w
      · exact pnmrawReads_no h hr (.inr ⟨h0, .inl (by omega)⟩) w
    · exact pnmrawReads_no h hr (.inl h0) w
  · have i1 : (600 : Int) < (s.size : Int) := by omega
    go_enter Tryz.func4, Tryz.ntmps4
    go_wp2_with (go_at_call 14; refine (awake14_any _).mono ?_; rintro e w9 ⟨rfl, b9⟩)
    go_ret
    exact ⟨rfl, b9⟩
end Go.Proofs.YtgmgcfjllijhgaaGreat
