/- The document's raw reading of samples. -/
import Derived.Test.YtgmgcfjllijhgaaGreatVPnmDb
namespace Go.Proofs.YtgmgcfjllijhgaaGreat
open Go.RowKit
set_option linter.unusedVariables false
set_option linter.unusedSimpArgs false

theorem rsmpR_ne {s : ByteArray} {q M a : Nat} {b : Nat × Nat} (h : rsmpR s q M a = .inl b) : b.1 ≠ 0 := by
 unfold rsmpR at h
 split at h
 ·split at h
  ·injection h with h; subst h; simp
  ·cases h
 ·injection h with h; subst h; simp
theorem rpixR_ne {s : ByteArray} {K q M a : Nat} {b : Nat × Nat} (h : rpixR s K q M a = .inl b) : b.1 ≠ 0 := by
 unfold rpixR at h
 split at h
 ·cases h1 : rsmpR s q M a with
  | inl b1 => rw [h1] at h; injection h with h; subst h; exact rsmpR_ne h1
  | inr r1 =>
   rw [h1] at h
   simp only [Out.bind] at h
   cases h2 : rsmpR s q M r1.2 with
   | inl b1 => rw [h2] at h; injection h with h; subst h; exact rsmpR_ne h2
   | inr r2 =>
    rw [h2] at h
    simp only [Out.bind] at h
    cases h3 : rsmpR s q M r2.2 with
    | inl b1 => rw [h3] at h; injection h with h; subst h; exact rsmpR_ne h3
    | inr r3 => rw [h3] at h; cases h
 ·cases h1 : rsmpR s q M a with
  | inl b1 => rw [h1] at h; injection h with h; subst h; exact rsmpR_ne h1
  | inr r1 => rw [h1] at h; cases h
set_option maxRecDepth 100000 in
set_option maxHeartbeats 16000000 in
theorem docRaw_five {s : ByteArray} {W H M n q : Nat} {D : DRes} (hsm : s.size ≤ 1099511627776) (hh : HeadOk s ⟨5, W, H, M, n, 0, 0⟩) (hq : q = if 255 < M then 2 else 1) (hD : pixsR W H (rpixR s 5 q M) (W * H) n [] = D) (w : World) : Calls Tryz.prog 15 #[.string s, .agg #[.int .i64 5, .int .i64 (W : Int), .int .i64 (H : Int), .int .i64 (M : Int), .int .i64 (n : Int), .int .i64 0, .int .i64 0]] w fun e w' => RefPost D w w' e := by
 have hW1 : 1 ≤ W := hh.W.1
 have hW2 : W ≤ 16384 := hh.W.2
 have hH2 : H ≤ 16384 := hh.H.2
 have hPB : W * H ≤ 16384 * 16384 := Nat.mul_le_mul hW2 hH2
 have hM := hh.M
 have hn : n ≤ s.size := hh.At
 obtain ⟨P, hP⟩ : ∃ P, W * H = P := ⟨_, rfl⟩
 rw [hP] at hPB
 rw [Nat.mul_comm] at hD
 obtain ⟨r, hr⟩ : ∃ r, drowN 5 W M = r := ⟨_, rfl⟩
 have hr2 : r = W * 1 * q := by rw [← hr]; unfold drowN; rw [if_neg (by decide), if_neg (by decide), Nat.mul_one, hq]
 have hq12 : q = 1 ∨ q = 2 := by rw [hq]; split <;> omega
 have hrb : r ≤ 98304 := by rw [hr2]; rcases hq12 with rfl | rfl <;> omega
 have HRR := Lib.hid hr2
 have HQQ := Lib.hid hq
 have HMM := Lib.hid hM
 clear hr2 hq12 hq
 have HRW := Lib.hid (show ∀ w : World, Calls Tryz.prog 43 #[.agg #[.int .i64 5, .int .i64 (W : Int), .int .i64 (H : Int), .int .i64 (M : Int), .int .i64 (n : Int), .int .i64 0, .int .i64 0]] w fun e w' => e = .returned (.int .i64 (r : Int)) ∧ Below w.heap.size w w' from fun w => drowC (K := 5) (H := H) (n := n) (w := w) (by decide) ⟨hW1, hW2⟩ hM hr.symm)
 have HP := Lib.hid hP
 have HD := Lib.hid hD
 have HO := Lib.hid hh
 have hsB : (s.size : Int) ≤ 1099511627776 := by omega
 have I0' : DcI w (((w.alloc (.cells #[.int .i64 5, .int .i64 (W : Int), .int .i64 (H : Int), .int .i64 (M : Int), .int .i64 (n : Int), .int .i64 0, .int .i64 0] 24)).alloc (.cells #[.int .i64 0, .int .i64 0, .slice none 0 0, .int .i64 0, .int .i64 0] 28)).alloc (.cells #[.int .i64 (W : Int), .int .i64 (H : Int), .slice none 0 0, .int .i64 0, .int .i64 0] 28)) (w.heap.size + 2) 5 W H M n (.slice none 0 0) [] :=
  ⟨Blk.alloc (Blk.alloc (Blk.new _ _ _) _) _, Blk.alloc (Blk.new_at _ _ _ (by simp)) _, Blk.new_at _ _ _ (by simp), World.ownsRow_nil _ _ _ _, (((Below.refl _ _).alloc (Nat.le_refl _) _).alloc (by simp) _).alloc (by simp; omega) _, by omega⟩
 clear hP hD hh hr hM
 go_enter Tryz.func15, Tryz.ntmps15
 go_upto_region 2 with fail
 generalize ((w.alloc (.cells #[.int .i64 5, .int .i64 (W : Int), .int .i64 (H : Int), .int .i64 (M : Int), .int .i64 (n : Int), .int .i64 0, .int .i64 0] 24)).alloc (.cells #[.int .i64 0, .int .i64 0, .slice none 0 0, .int .i64 0, .int .i64 0] 28)).alloc (.cells #[.int .i64 (W : Int), .int .i64 (H : Int), .slice none 0 0, .int .i64 0, .int .i64 0] 28) = w5 at I0' ⊢
 generalize hpo : w.heap.size + 2 = po at I0' ⊢
 have HI0 := Lib.hid I0'
 obtain ⟨h0, h1, h2, h3, h4⟩ := I0'.head
 obtain ⟨h5, h6⟩ := I0'.h56
 clear I0' hpo
 go_upto_region 3 with (go_at_call 43; refine (HRW.out _).mono ?_; rintro e w6 ⟨rfl, b6⟩)
 have HI6 := Lib.hid (HI0.out.below b6)
 clear h0 h1 h2 h3 h4 h5 h6 b6 HI0
 go_upto_region 4 with fail
 go_loopg [7, 8, 9, 10, 11, 12, 13] H (fun gh v7 v8 v9 v10 v11 v12 v13 wr => ∃ (y : Nat) (v : Value) (L : List Qc) (t : Nat), y + gh = H ∧ v7 = .int .i64 (y : Int) ∧ L.length = y * W ∧ t = n + y * r ∧ Hid (pixsR W H (rpixR s 5 q M) (gh * W) t L = D) ∧ Hid (DcI w wr po 5 W H M n v L))
 case atStart => exact ⟨0, _, [], n, by omega, rfl, by simp, by simp, HD, HI6⟩
 case round =>
  obtain ⟨y, v, L, t, hy, rfl, hL, hB, HRUN, HI⟩ := hrel
  clear HI6 HD
  obtain ⟨h0, h1, h2, h3, h4⟩ := HI.out.head
  by_cases hyH : y < H
  ·have hyI : (y : Int) < (H : Int) := by omega
   obtain ⟨m, rfl⟩ : ∃ m, gk = m + 1 := ⟨gk - 1, by omega⟩
   obtain ⟨z, hz⟩ : ∃ z, y * r = z := ⟨_, rfl⟩
   obtain ⟨mW, hmW⟩ : ∃ mW, m * W = mW := ⟨_, rfl⟩
   obtain ⟨yW, hyW⟩ : ∃ yW, y * W = yW := ⟨_, rfl⟩
   have hzb : z ≤ 16384 * 98304 := by rw [← hz]; exact Nat.mul_le_mul (by omega) hrb
   have hzw : IntKind.i64.wrap ((y : Int) * (r : Int)) = (z : Int) := by rw [show (y : Int) * (r : Int) = (z : Int) by rw [← hz]; push_cast; rfl]; exact IntWalk.i64_in _ (by omega)
   have hyb : yW + W ≤ P := by
    rw [← HP.out, ← hyW, show y * W + W = (y + 1) * W by rw [Nat.add_mul, Nat.one_mul], Nat.mul_comm W H]
    exact Nat.mul_le_mul (by omega) (Nat.le_refl _)
   have hrun := HRUN.out
   rw [show (m + 1) * W = W + mW by rw [Nat.add_mul, Nat.one_mul, hmW, Nat.add_comm]] at hrun
   rw [hz] at hB
   rw [hyW] at hL
   have HRU := Lib.hid hrun
   have HLL := Lib.hid hL
   have HZ0 := Lib.hid (And.intro hz (And.intro hmW hyW))
   have HBB := Lib.hid hB
   clear hz hmW hyW hrun HRUN hL hB
   go_upto_region 8 with fail
   clear h0 h1 h2 h3 h4
   go_loopg [9, 10, 11, 12, 13] W (fun gx v9 v10 v11 v12 v13 wx => ∃ (x : Nat) (v : Value) (L : List Qc) (t : Nat), x + gx = W ∧ v9 = .int .i64 (x : Int) ∧ L.length = yW + x ∧ t = n + z + x * 1 * q ∧ Hid (pixsR W H (rpixR s 5 q M) (gx + mW) t L = D) ∧ Hid (DcI w wx po 5 W H M n v L))
   case atStart => exact ⟨0, v, L, t, by omega, rfl, HLL.out, by rw [HBB.out]; simp, HRU, HI⟩
   case round =>
    clear HI HRU HLL HBB
    clear t L v
    obtain ⟨x, v, L, t, hx, rfl, hL, hB, HRUN, HI⟩ := hrel
    obtain ⟨h0, h1, h2, h3, h4⟩ := HI.out.head
    by_cases hxW : x < W
    ·have hxI : (x : Int) < (W : Int) := by omega
     obtain ⟨g', rfl⟩ : ∃ g', gk = g' + 1 := ⟨gk - 1, by omega⟩
     have hrun := HRUN.out
     rw [show g' + 1 + mW = (g' + mW) + 1 by omega] at hrun
     unfold pixsR at hrun
     have HL := Lib.hid hL
     have hlb : yW + x ≤ P := by omega
     clear HRUN
     obtain ⟨h5, h6⟩ := HI.out.h56
     have HPX := Lib.hid (fun w => refRpix5 (s := s) (W := W) (H := H) (M := M) (n := n) (fr := n + z) (x := x) (q := q) (a0 := t) (frI := (n : Int) + (z : Int)) (by omega) hsm HMM.out HQQ.out (by omega) (by omega) hB w)
     obtain ⟨R, hR⟩ : ∃ R, rpixR s 5 q M t = R := ⟨_, rfl⟩
     rw [hR] at HPX hrun
     have hnx : ∀ r1, R = .inr r1 → r1.2 = n + z + (x + 1) * 1 * q := fun r1 h => by
      rw [rpixR_next (hR.trans h), hB, if_neg (by decide), show (x + 1) * 1 = x * 1 + 1 by omega, Nat.add_mul, Nat.add_assoc (n + z)]
     have hne : ∀ b, R = .inl b → b.1 ≠ 0 := fun b h => rpixR_ne (hR.trans h)
     clear hR hB hL hzw
     cases R with
     | inl b =>
      obtain ⟨k, i⟩ := b
      have hk0 : k ≠ 0 := hne _ rfl
      have hkI : ¬ (k : Int) = 0 := by omega
      unfold rpixV at HPX
      have HR2 : Hid (DRes.bad k i = D) := Lib.hid hrun
      clear hne hnx hrun hk0
      go_upto_region 17 with (go_at_call 45; refine (HPX.out _).mono ?_; rintro e w7 ⟨b7, rfl⟩)
      have I8 := ((HI.out.below b7).alloc (.cells #[.int .u8 0, .int .u8 0, .int .u8 0, .int .u8 0] 59)).alloc (.cells #[.int .i64 0, .int .i64 0, .slice none 0 0, .int .i64 (k : Int), .int .i64 (i : Int)] 28)
      have E8 : RI ((w7.alloc (.cells #[.int .u8 0, .int .u8 0, .int .u8 0, .int .u8 0] 59)).alloc (.cells #[.int .i64 0, .int .i64 0, .slice none 0 0, .int .i64 (k : Int), .int .i64 (i : Int)] 28)) (w7.heap.size + 1) 0 0 (.slice none 0 0) (k : Int) (i : Int) := Blk.new_at _ _ _ (by simp)
      have hw7 : w.heap.size + 1 < w7.heap.size + 1 := by have := (HI.out.below b7).A; have := Blk.lt this; omega
      clear h0 h1 h2 h3 h4 h5 h6 b7 HI
      generalize (w7.alloc (.cells #[.int .u8 0, .int .u8 0, .int .u8 0, .int .u8 0] 59)).alloc (.cells #[.int .i64 0, .int .i64 0, .slice none 0 0, .int .i64 (k : Int), .int .i64 (i : Int)] 28) = w8 at I8 E8 ⊢
      generalize w7.heap.size + 1 = qi at E8 hw7 ⊢
      obtain ⟨x0, x1, x2, x3, x4, zx0, zx1, zx2, zx3, zx4, xl⟩ := RI.all I8.A
      obtain ⟨e0, e1, e2, e3, e4, ze0, ze1, ze2, ze3, ze4, el⟩ := RI.all E8
      have hqn : w.heap.size + 1 ≠ qi := by omega
      go_wp2_with fail
      exact bodyPost_ret (v := .agg #[.int .i64 0, .int .i64 0, .slice none 0 0, .int .i64 (k : Int), .int .i64 (i : Int)]) (by simp [results, Tryz.results15, go_sem, x0, x1, x2, x3, x4]) rfl (by rw [show D = DRes.bad k i from HR2.out.symm]; exact ⟨Below.st5 I8.B (Nat.le_succ _), rfl⟩)
     | inr r1 =>
      obtain ⟨q0, a'⟩ := r1
      have ha' : a' = n + z + (x + 1) * 1 * q := hnx _ rfl
      unfold rpixV at HPX
      have HRX : Hid (pixsR W H (rpixR s 5 q M) (g' + mW) a' (L ++ [q0]) = D) := Lib.hid hrun
      have HAA := Lib.hid ha'
      clear hne hnx hrun ha'
      go_upto_region 17 with (go_at_call 45; refine (HPX.out _).mono ?_; rintro e w7 ⟨b7, rfl⟩)
      have I8 := ((HI.out.below b7).alloc (.cells #[.int .u8 (q0.r.toNat : Int), .int .u8 (q0.g.toNat : Int), .int .u8 (q0.b.toNat : Int), .int .u8 (q0.a.toNat : Int)] 59)).alloc (.cells #[.int .i64 0, .int .i64 0, .slice none 0 0, .int .i64 0, .int .i64 0] 28)
      have E8 : RI ((w7.alloc (.cells #[.int .u8 (q0.r.toNat : Int), .int .u8 (q0.g.toNat : Int), .int .u8 (q0.b.toNat : Int), .int .u8 (q0.a.toNat : Int)] 59)).alloc (.cells #[.int .i64 0, .int .i64 0, .slice none 0 0, .int .i64 0, .int .i64 0] 28)) (w7.heap.size + 1) 0 0 (.slice none 0 0) 0 0 := Blk.new_at _ _ _ (by simp)
      have C8 : CB ((w7.alloc (.cells #[.int .u8 (q0.r.toNat : Int), .int .u8 (q0.g.toNat : Int), .int .u8 (q0.b.toNat : Int), .int .u8 (q0.a.toNat : Int)] 59)).alloc (.cells #[.int .i64 0, .int .i64 0, .slice none 0 0, .int .i64 0, .int .i64 0] 28)) w7.heap.size (q0.r.toNat : Int) (q0.g.toNat : Int) (q0.b.toNat : Int) (q0.a.toNat : Int) := Blk.alloc (Blk.new _ _ _) _
      clear h0 h1 h2 h3 h4 h5 h6 b7 HI HPX
      generalize (w7.alloc (.cells #[.int .u8 (q0.r.toNat : Int), .int .u8 (q0.g.toNat : Int), .int .u8 (q0.b.toNat : Int), .int .u8 (q0.a.toNat : Int)] 59)).alloc (.cells #[.int .i64 0, .int .i64 0, .slice none 0 0, .int .i64 0, .int .i64 0] 28) = w8 at I8 E8 C8 ⊢
      generalize w7.heap.size + 1 = qi at E8 ⊢
      generalize w7.heap.size = qc at C8 ⊢
      have e3 : w8.cell? ⟨qi, 3, none⟩ = some (.int .i64 0) := Blk.cell E8 3
      have HI8 := Lib.hid I8
      have c0 := C8.c0
      have c1 := C8.c1
      have c2 := C8.c2
      have c3 := C8.c3
      obtain ⟨X0, X1, X2, X3, X4, zX0, zX1, zX2, zX3, zX4, Xl⟩ := RI.all I8.X
      have hbs : w.heap.size ≤ (w8.alloc (.cells #[.int .u8 (q0.r.toNat : Int), .int .u8 (q0.g.toNat : Int), .int .u8 (q0.b.toNat : Int), .int .u8 (q0.a.toNat : Int)] 59)).heap.size := by have := I8.B.size; simp; omega
      have hll : L.length + 1 < 1099511627776 := by rw [HL.out]; omega
      clear E8 C8 I8
      go_upto_region 19 with fail
      go_wp2_with (at_builtin; refine wpList_append_cols rfl (.tmp 85) (.tmp 87) rfl w.heap.size v L rfl (HI8.out.alloc _).O w8.heap.size 1 1 [q0] rfl rfl (q_new w8 q0) ?_ ?_ ?_; (simp; omega); exact hbs; intro v10 w10 o10 b10 g10; have X10 : RI w10 po (W : Int) (H : Int) v 0 0 := Blk.grownQ (HI8.out.alloc _).X (HI8.out.alloc _).O (by decide) g10; have IG := (HI8.out.alloc _).grow o10 b10 g10; clear c0 c1 c2 c3 e3 X0 X1 X2 X3 X4 zX0 zX1 zX2 zX3 zX4 Xl; obtain ⟨X0, X1, X2, X3, X4, zX0, zX1, zX2, zX3, zX4, Xl⟩ := RI.all X10; obtain ⟨a10, c10, hv10⟩ := o10.slice; generalize hn10 : (L ++ [q0]).length = n10 at hv10; subst hv10)
      have HZ := Lib.hid IG
      clear IG X10 o10 b10 g10 X0 X1 X2 X3 X4 zX0 zX1 zX2 zX3 zX4 Xl hn10
      go_roundg g'
      case measure => omega
      case rel => exact ⟨x + 1, _, L ++ [q0], a', by omega, by go_num, by rw [List.length_append, HL.out]; show yW + x + 1 = yW + (x + 1); omega, HAA.out, HRX, HZ⟩
    ·obtain rfl : x = W := by omega
     obtain rfl : gk = 0 := by omega
     have hxI : ¬ (x : Int) < (x : Int) := by omega
     have hrun := HRUN.out
     rw [Nat.zero_add] at hrun
     obtain ⟨hz, hmW, hyW⟩ := HZ0.out
     have HR3 := Lib.hid (show pixsR x H (rpixR s 5 q M) (m * x) t L = D by rw [hmW]; exact hrun)
     have hL3 : L.length = (y + 1) * x := by rw [hL, ← hyW, Nat.add_mul, Nat.one_mul]
     have hB3 : t = n + (y + 1) * r := by rw [hB, ← hz, Nat.add_mul, Nat.one_mul, Nat.add_assoc, HRR.out]
     have HLB := Lib.hid (And.intro hL3 hB3)
     clear hrun HRUN hz hmW hyW hL hB hL3 hB3 HZ0
     go_wp2_with fail
     go_roundg m
     case measure => omega
     case rel => exact ⟨y + 1, v, L, t, by omega, by go_num, HLB.out.1, HLB.out.2, HR3, HI⟩
  ·obtain rfl : y = H := by omega
   obtain rfl : gk = 0 := by omega
   have hyI : ¬ (y : Int) < (y : Int) := by omega
   have hrun := HRUN.out
   rw [Nat.zero_mul] at hrun
   unfold pixsR at hrun
   have HR2 := Lib.hid hrun
   have HL := Lib.hid (show L.length = P by rw [hL, Nat.mul_comm]; exact HP.out)
   obtain ⟨va, vc, hv⟩ := HI.out.O.slice
   generalize L.length = ll at hv
   subst hv
   obtain ⟨x0, x1, x2, x3, x4, zx0, zx1, zx2, zx3, zx4, xl⟩ := RI.all HI.out.A
   obtain ⟨X0, X1, X2, X3, X4, zX0, zX1, zX2, zX3, zX4, Xl⟩ := RI.all HI.out.X
   have hpn : w.heap.size + 1 ≠ po := by have := HI.out.np; omega
   clear hrun HRUN hL hB
   go_wp2_with fail
   exact bodyPost_ret (v := .agg #[.int .i64 (W : Int), .int .i64 (y : Int), .slice va ll vc, .int .i64 0, .int .i64 0]) (by simp [results, Tryz.results15, go_sem, x0, x1, x2, x3, x4]) rfl (by rw [show D = DRes.img W y (flat L) from HR2.out.symm]; exact ⟨HI.out.outs.1, _, L, rfl, HI.out.outs.2, rfl, by rw [HL.out, HP.out]⟩)
set_option maxRecDepth 100000 in
set_option maxHeartbeats 16000000 in
theorem docRaw_six {s : ByteArray} {W H M n q : Nat} {D : DRes} (hsm : s.size ≤ 1099511627776) (hh : HeadOk s ⟨6, W, H, M, n, 0, 0⟩) (hq : q = if 255 < M then 2 else 1) (hD : pixsR W H (rpixR s 6 q M) (W * H) n [] = D) (w : World) : Calls Tryz.prog 15 #[.string s, .agg #[.int .i64 6, .int .i64 (W : Int), .int .i64 (H : Int), .int .i64 (M : Int), .int .i64 (n : Int), .int .i64 0, .int .i64 0]] w fun e w' => RefPost D w w' e := by
 have hW1 : 1 ≤ W := hh.W.1
 have hW2 : W ≤ 16384 := hh.W.2
 have hH2 : H ≤ 16384 := hh.H.2
 have hPB : W * H ≤ 16384 * 16384 := Nat.mul_le_mul hW2 hH2
 have hM := hh.M
 have hn : n ≤ s.size := hh.At
 obtain ⟨P, hP⟩ : ∃ P, W * H = P := ⟨_, rfl⟩
 rw [hP] at hPB
 rw [Nat.mul_comm] at hD
 obtain ⟨r, hr⟩ : ∃ r, drowN 6 W M = r := ⟨_, rfl⟩
 have hr2 : r = W * 3 * q := by rw [← hr]; unfold drowN; rw [if_neg (by decide), if_pos rfl, Nat.mul_comm 3 W, hq]
 have hq12 : q = 1 ∨ q = 2 := by rw [hq]; split <;> omega
 have hrb : r ≤ 98304 := by rw [hr2]; rcases hq12 with rfl | rfl <;> omega
 have HRR := Lib.hid hr2
 have HQQ := Lib.hid hq
 have HMM := Lib.hid hM
 clear hr2 hq12 hq
 have HRW := Lib.hid (show ∀ w : World, Calls Tryz.prog 43 #[.agg #[.int .i64 6, .int .i64 (W : Int), .int .i64 (H : Int), .int .i64 (M : Int), .int .i64 (n : Int), .int .i64 0, .int .i64 0]] w fun e w' => e = .returned (.int .i64 (r : Int)) ∧ Below w.heap.size w w' from fun w => drowC (K := 6) (H := H) (n := n) (w := w) (by decide) ⟨hW1, hW2⟩ hM hr.symm)
 have HP := Lib.hid hP
 have HD := Lib.hid hD
 have HO := Lib.hid hh
 have hsB : (s.size : Int) ≤ 1099511627776 := by omega
 have I0' : DcI w (((w.alloc (.cells #[.int .i64 6, .int .i64 (W : Int), .int .i64 (H : Int), .int .i64 (M : Int), .int .i64 (n : Int), .int .i64 0, .int .i64 0] 24)).alloc (.cells #[.int .i64 0, .int .i64 0, .slice none 0 0, .int .i64 0, .int .i64 0] 28)).alloc (.cells #[.int .i64 (W : Int), .int .i64 (H : Int), .slice none 0 0, .int .i64 0, .int .i64 0] 28)) (w.heap.size + 2) 6 W H M n (.slice none 0 0) [] :=
  ⟨Blk.alloc (Blk.alloc (Blk.new _ _ _) _) _, Blk.alloc (Blk.new_at _ _ _ (by simp)) _, Blk.new_at _ _ _ (by simp), World.ownsRow_nil _ _ _ _, (((Below.refl _ _).alloc (Nat.le_refl _) _).alloc (by simp) _).alloc (by simp; omega) _, by omega⟩
 clear hP hD hh hr hM
 go_enter Tryz.func15, Tryz.ntmps15
 go_upto_region 2 with fail
 generalize ((w.alloc (.cells #[.int .i64 6, .int .i64 (W : Int), .int .i64 (H : Int), .int .i64 (M : Int), .int .i64 (n : Int), .int .i64 0, .int .i64 0] 24)).alloc (.cells #[.int .i64 0, .int .i64 0, .slice none 0 0, .int .i64 0, .int .i64 0] 28)).alloc (.cells #[.int .i64 (W : Int), .int .i64 (H : Int), .slice none 0 0, .int .i64 0, .int .i64 0] 28) = w5 at I0' ⊢
 generalize hpo : w.heap.size + 2 = po at I0' ⊢
 have HI0 := Lib.hid I0'
 obtain ⟨h0, h1, h2, h3, h4⟩ := I0'.head
 obtain ⟨h5, h6⟩ := I0'.h56
 clear I0' hpo
 go_upto_region 3 with (go_at_call 43; refine (HRW.out _).mono ?_; rintro e w6 ⟨rfl, b6⟩)
 have HI6 := Lib.hid (HI0.out.below b6)
 clear h0 h1 h2 h3 h4 h5 h6 b6 HI0
 go_upto_region 4 with fail
 go_loopg [7, 8, 9, 10, 11, 12, 13] H (fun gh v7 v8 v9 v10 v11 v12 v13 wr => ∃ (y : Nat) (v : Value) (L : List Qc) (t : Nat), y + gh = H ∧ v7 = .int .i64 (y : Int) ∧ L.length = y * W ∧ t = n + y * r ∧ Hid (pixsR W H (rpixR s 6 q M) (gh * W) t L = D) ∧ Hid (DcI w wr po 6 W H M n v L))
 case atStart => exact ⟨0, _, [], n, by omega, rfl, by simp, by simp, HD, HI6⟩
 case round =>
  obtain ⟨y, v, L, t, hy, rfl, hL, hB, HRUN, HI⟩ := hrel
  clear HI6 HD
  obtain ⟨h0, h1, h2, h3, h4⟩ := HI.out.head
  by_cases hyH : y < H
  ·have hyI : (y : Int) < (H : Int) := by omega
   obtain ⟨m, rfl⟩ : ∃ m, gk = m + 1 := ⟨gk - 1, by omega⟩
   obtain ⟨z, hz⟩ : ∃ z, y * r = z := ⟨_, rfl⟩
   obtain ⟨mW, hmW⟩ : ∃ mW, m * W = mW := ⟨_, rfl⟩
   obtain ⟨yW, hyW⟩ : ∃ yW, y * W = yW := ⟨_, rfl⟩
   have hzb : z ≤ 16384 * 98304 := by rw [← hz]; exact Nat.mul_le_mul (by omega) hrb
   have hzw : IntKind.i64.wrap ((y : Int) * (r : Int)) = (z : Int) := by rw [show (y : Int) * (r : Int) = (z : Int) by rw [← hz]; push_cast; rfl]; exact IntWalk.i64_in _ (by omega)
   have hyb : yW + W ≤ P := by
    rw [← HP.out, ← hyW, show y * W + W = (y + 1) * W by rw [Nat.add_mul, Nat.one_mul], Nat.mul_comm W H]
    exact Nat.mul_le_mul (by omega) (Nat.le_refl _)
   have hrun := HRUN.out
   rw [show (m + 1) * W = W + mW by rw [Nat.add_mul, Nat.one_mul, hmW, Nat.add_comm]] at hrun
   rw [hz] at hB
   rw [hyW] at hL
   have HRU := Lib.hid hrun
   have HLL := Lib.hid hL
   have HZ0 := Lib.hid (And.intro hz (And.intro hmW hyW))
   have HBB := Lib.hid hB
   clear hz hmW hyW hrun HRUN hL hB
   go_upto_region 8 with fail
   clear h0 h1 h2 h3 h4
   go_loopg [9, 10, 11, 12, 13] W (fun gx v9 v10 v11 v12 v13 wx => ∃ (x : Nat) (v : Value) (L : List Qc) (t : Nat), x + gx = W ∧ v9 = .int .i64 (x : Int) ∧ L.length = yW + x ∧ t = n + z + x * 3 * q ∧ Hid (pixsR W H (rpixR s 6 q M) (gx + mW) t L = D) ∧ Hid (DcI w wx po 6 W H M n v L))
   case atStart => exact ⟨0, v, L, t, by omega, rfl, HLL.out, by rw [HBB.out]; simp, HRU, HI⟩
   case round =>
    clear HI HRU HLL HBB
    clear t L v
    obtain ⟨x, v, L, t, hx, rfl, hL, hB, HRUN, HI⟩ := hrel
    obtain ⟨h0, h1, h2, h3, h4⟩ := HI.out.head
    by_cases hxW : x < W
    ·have hxI : (x : Int) < (W : Int) := by omega
     obtain ⟨g', rfl⟩ : ∃ g', gk = g' + 1 := ⟨gk - 1, by omega⟩
     have hrun := HRUN.out
     rw [show g' + 1 + mW = (g' + mW) + 1 by omega] at hrun
     unfold pixsR at hrun
     have HL := Lib.hid hL
     have hlb : yW + x ≤ P := by omega
     clear HRUN
     obtain ⟨h5, h6⟩ := HI.out.h56
     have HPX := Lib.hid (fun w => refRpix6 (s := s) (W := W) (H := H) (M := M) (n := n) (fr := n + z) (x := x) (q := q) (a0 := t) (frI := (n : Int) + (z : Int)) (by omega) hsm HMM.out HQQ.out (by omega) (by omega) hB w)
     obtain ⟨R, hR⟩ : ∃ R, rpixR s 6 q M t = R := ⟨_, rfl⟩
     rw [hR] at HPX hrun
     have hnx : ∀ r1, R = .inr r1 → r1.2 = n + z + (x + 1) * 3 * q := fun r1 h => by
      rw [rpixR_next (hR.trans h), hB, if_pos rfl, show (x + 1) * 3 = x * 3 + 3 by omega, Nat.add_mul, Nat.add_assoc (n + z)]
     have hne : ∀ b, R = .inl b → b.1 ≠ 0 := fun b h => rpixR_ne (hR.trans h)
     clear hR hB hL hzw
     cases R with
     | inl b =>
      obtain ⟨k, i⟩ := b
      have hk0 : k ≠ 0 := hne _ rfl
      have hkI : ¬ (k : Int) = 0 := by omega
      unfold rpixV at HPX
      have HR2 : Hid (DRes.bad k i = D) := Lib.hid hrun
      clear hne hnx hrun hk0
      go_upto_region 17 with (go_at_call 45; refine (HPX.out _).mono ?_; rintro e w7 ⟨b7, rfl⟩)
      have I8 := ((HI.out.below b7).alloc (.cells #[.int .u8 0, .int .u8 0, .int .u8 0, .int .u8 0] 59)).alloc (.cells #[.int .i64 0, .int .i64 0, .slice none 0 0, .int .i64 (k : Int), .int .i64 (i : Int)] 28)
      have E8 : RI ((w7.alloc (.cells #[.int .u8 0, .int .u8 0, .int .u8 0, .int .u8 0] 59)).alloc (.cells #[.int .i64 0, .int .i64 0, .slice none 0 0, .int .i64 (k : Int), .int .i64 (i : Int)] 28)) (w7.heap.size + 1) 0 0 (.slice none 0 0) (k : Int) (i : Int) := Blk.new_at _ _ _ (by simp)
      have hw7 : w.heap.size + 1 < w7.heap.size + 1 := by have := (HI.out.below b7).A; have := Blk.lt this; omega
      clear h0 h1 h2 h3 h4 h5 h6 b7 HI
      generalize (w7.alloc (.cells #[.int .u8 0, .int .u8 0, .int .u8 0, .int .u8 0] 59)).alloc (.cells #[.int .i64 0, .int .i64 0, .slice none 0 0, .int .i64 (k : Int), .int .i64 (i : Int)] 28) = w8 at I8 E8 ⊢
      generalize w7.heap.size + 1 = qi at E8 hw7 ⊢
      obtain ⟨x0, x1, x2, x3, x4, zx0, zx1, zx2, zx3, zx4, xl⟩ := RI.all I8.A
      obtain ⟨e0, e1, e2, e3, e4, ze0, ze1, ze2, ze3, ze4, el⟩ := RI.all E8
      have hqn : w.heap.size + 1 ≠ qi := by omega
      go_wp2_with fail
      exact bodyPost_ret (v := .agg #[.int .i64 0, .int .i64 0, .slice none 0 0, .int .i64 (k : Int), .int .i64 (i : Int)]) (by simp [results, Tryz.results15, go_sem, x0, x1, x2, x3, x4]) rfl (by rw [show D = DRes.bad k i from HR2.out.symm]; exact ⟨Below.st5 I8.B (Nat.le_succ _), rfl⟩)
     | inr r1 =>
      obtain ⟨q0, a'⟩ := r1
      have ha' : a' = n + z + (x + 1) * 3 * q := hnx _ rfl
      unfold rpixV at HPX
      have HRX : Hid (pixsR W H (rpixR s 6 q M) (g' + mW) a' (L ++ [q0]) = D) := Lib.hid hrun
      have HAA := Lib.hid ha'
      clear hne hnx hrun ha'
      go_upto_region 17 with (go_at_call 45; refine (HPX.out _).mono ?_; rintro e w7 ⟨b7, rfl⟩)
      have I8 := ((HI.out.below b7).alloc (.cells #[.int .u8 (q0.r.toNat : Int), .int .u8 (q0.g.toNat : Int), .int .u8 (q0.b.toNat : Int), .int .u8 (q0.a.toNat : Int)] 59)).alloc (.cells #[.int .i64 0, .int .i64 0, .slice none 0 0, .int .i64 0, .int .i64 0] 28)
      have E8 : RI ((w7.alloc (.cells #[.int .u8 (q0.r.toNat : Int), .int .u8 (q0.g.toNat : Int), .int .u8 (q0.b.toNat : Int), .int .u8 (q0.a.toNat : Int)] 59)).alloc (.cells #[.int .i64 0, .int .i64 0, .slice none 0 0, .int .i64 0, .int .i64 0] 28)) (w7.heap.size + 1) 0 0 (.slice none 0 0) 0 0 := Blk.new_at _ _ _ (by simp)
      have C8 : CB ((w7.alloc (.cells #[.int .u8 (q0.r.toNat : Int), .int .u8 (q0.g.toNat : Int), .int .u8 (q0.b.toNat : Int), .int .u8 (q0.a.toNat : Int)] 59)).alloc (.cells #[.int .i64 0, .int .i64 0, .slice none 0 0, .int .i64 0, .int .i64 0] 28)) w7.heap.size (q0.r.toNat : Int) (q0.g.toNat : Int) (q0.b.toNat : Int) (q0.a.toNat : Int) := Blk.alloc (Blk.new _ _ _) _
      clear h0 h1 h2 h3 h4 h5 h6 b7 HI HPX
      generalize (w7.alloc (.cells #[.int .u8 (q0.r.toNat : Int), .int .u8 (q0.g.toNat : Int), .int .u8 (q0.b.toNat : Int), .int .u8 (q0.a.toNat : Int)] 59)).alloc (.cells #[.int .i64 0, .int .i64 0, .slice none 0 0, .int .i64 0, .int .i64 0] 28) = w8 at I8 E8 C8 ⊢
      generalize w7.heap.size + 1 = qi at E8 ⊢
      generalize w7.heap.size = qc at C8 ⊢
      have e3 : w8.cell? ⟨qi, 3, none⟩ = some (.int .i64 0) := Blk.cell E8 3
      have HI8 := Lib.hid I8
      have c0 := C8.c0
      have c1 := C8.c1
      have c2 := C8.c2
      have c3 := C8.c3
      obtain ⟨X0, X1, X2, X3, X4, zX0, zX1, zX2, zX3, zX4, Xl⟩ := RI.all I8.X
      have hbs : w.heap.size ≤ (w8.alloc (.cells #[.int .u8 (q0.r.toNat : Int), .int .u8 (q0.g.toNat : Int), .int .u8 (q0.b.toNat : Int), .int .u8 (q0.a.toNat : Int)] 59)).heap.size := by have := I8.B.size; simp; omega
      have hll : L.length + 1 < 1099511627776 := by rw [HL.out]; omega
      clear E8 C8 I8
      go_upto_region 19 with fail
      go_wp2_with (at_builtin; refine wpList_append_cols rfl (.tmp 85) (.tmp 87) rfl w.heap.size v L rfl (HI8.out.alloc _).O w8.heap.size 1 1 [q0] rfl rfl (q_new w8 q0) ?_ ?_ ?_; (simp; omega); exact hbs; intro v10 w10 o10 b10 g10; have X10 : RI w10 po (W : Int) (H : Int) v 0 0 := Blk.grownQ (HI8.out.alloc _).X (HI8.out.alloc _).O (by decide) g10; have IG := (HI8.out.alloc _).grow o10 b10 g10; clear c0 c1 c2 c3 e3 X0 X1 X2 X3 X4 zX0 zX1 zX2 zX3 zX4 Xl; obtain ⟨X0, X1, X2, X3, X4, zX0, zX1, zX2, zX3, zX4, Xl⟩ := RI.all X10; obtain ⟨a10, c10, hv10⟩ := o10.slice; generalize hn10 : (L ++ [q0]).length = n10 at hv10; subst hv10)
      have HZ := Lib.hid IG
      clear IG X10 o10 b10 g10 X0 X1 X2 X3 X4 zX0 zX1 zX2 zX3 zX4 Xl hn10
      go_roundg g'
      case measure => omega
      case rel => exact ⟨x + 1, _, L ++ [q0], a', by omega, by go_num, by rw [List.length_append, HL.out]; show yW + x + 1 = yW + (x + 1); omega, HAA.out, HRX, HZ⟩
    ·obtain rfl : x = W := by omega
     obtain rfl : gk = 0 := by omega
     have hxI : ¬ (x : Int) < (x : Int) := by omega
     have hrun := HRUN.out
     rw [Nat.zero_add] at hrun
     obtain ⟨hz, hmW, hyW⟩ := HZ0.out
     have HR3 := Lib.hid (show pixsR x H (rpixR s 6 q M) (m * x) t L = D by rw [hmW]; exact hrun)
     have hL3 : L.length = (y + 1) * x := by rw [hL, ← hyW, Nat.add_mul, Nat.one_mul]
     have hB3 : t = n + (y + 1) * r := by rw [hB, ← hz, Nat.add_mul, Nat.one_mul, Nat.add_assoc, HRR.out]
     have HLB := Lib.hid (And.intro hL3 hB3)
     clear hrun HRUN hz hmW hyW hL hB hL3 hB3 HZ0
     go_wp2_with fail
     go_roundg m
     case measure => omega
     case rel => exact ⟨y + 1, v, L, t, by omega, by go_num, HLB.out.1, HLB.out.2, HR3, HI⟩
  ·obtain rfl : y = H := by omega
   obtain rfl : gk = 0 := by omega
   have hyI : ¬ (y : Int) < (y : Int) := by omega
   have hrun := HRUN.out
   rw [Nat.zero_mul] at hrun
   unfold pixsR at hrun
   have HR2 := Lib.hid hrun
   have HL := Lib.hid (show L.length = P by rw [hL, Nat.mul_comm]; exact HP.out)
   obtain ⟨va, vc, hv⟩ := HI.out.O.slice
   generalize L.length = ll at hv
   subst hv
   obtain ⟨x0, x1, x2, x3, x4, zx0, zx1, zx2, zx3, zx4, xl⟩ := RI.all HI.out.A
   obtain ⟨X0, X1, X2, X3, X4, zX0, zX1, zX2, zX3, zX4, Xl⟩ := RI.all HI.out.X
   have hpn : w.heap.size + 1 ≠ po := by have := HI.out.np; omega
   clear hrun HRUN hL hB
   go_wp2_with fail
   exact bodyPost_ret (v := .agg #[.int .i64 (W : Int), .int .i64 (y : Int), .slice va ll vc, .int .i64 0, .int .i64 0]) (by simp [results, Tryz.results15, go_sem, x0, x1, x2, x3, x4]) rfl (by rw [show D = DRes.img W y (flat L) from HR2.out.symm]; exact ⟨HI.out.outs.1, _, L, rfl, HI.out.outs.2, rfl, by rw [HL.out, HP.out]⟩)
end Go.Proofs.YtgmgcfjllijhgaaGreat
