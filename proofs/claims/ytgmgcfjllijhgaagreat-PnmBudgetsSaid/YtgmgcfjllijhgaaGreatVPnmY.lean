/- The law PnmBudgets: its ways. The law PnmBudgets. -/
import Derived.Test.YtgmgcfjllijhgaaGreatVFfM
import Derived.Test.YtgmgcfjllijhgaaGreatVPnmDv
namespace Go.Proofs.YtgmgcfjllijhgaaGreat
open Go.RowKit
set_option linter.unusedVariables false
set_option linter.unusedSimpArgs false

set_option maxRecDepth 100000 in
set_option maxHeartbeats 40000000 in
theorem pnmBudgets_nn {s : ByteArray} {ba bb bc bd : Int} {W H : Nat} (hs : s.size ≤ 600) (hp : fits ba ∧ fits bb ∧ fits bc ∧ fits bd) (hc : bc ≤ 262144 ∧ bc < 0) (hd : bd < 0) (u : pnmSides s = (W, H)) (hW : W ≤ 100) (hH : H ≤ 100) (w : World) :
  Calls Tryz.prog 7 #[.string s, .agg #[.int .i64 ba, .int .i64 bb, .int .i64 bc, .int .i64 bd]] w fun e w' => e = .returned (.bool true) ∧ Below w.heap.size w w' := by
 have hsI : ¬ (600 : Int) < (s.size : Int) := by omega
 have hWI : ¬ (100 : Int) < (W : Int) := by omega
 have hHI : ¬ (100 : Int) < (H : Int) := by omega
 have hsm : s.size ≤ 1099511627776 := by omega
 have HR0 := fun w => refPnmSides hsm w
 rw [u] at HR0
 have HR := Lib.hid HR0
 have HG := Lib.hid (fun w => pnmRunG (s := s) (ba := ba) (bb := bb) (bc := bc) (bd := bd) hsm hp.1.2 hp.2.1.2 (by have := hp.2.2.1.2; omega) hp.2.2.2.2 w)
 have HN := Lib.hid (fun w => pnmRunW hs (by rw [u]; exact hW) (by rw [u]; exact hH) w)
 obtain ⟨hc1, hc2⟩ := hc
 clear HR0 u hp hW hH hs hsm
 go_enter Tryz.func7, Tryz.ntmps7
 go_wp2_with (first
  | (go_at_call 20; refine (HR.out _).mono ?_; rintro e w1 ⟨rfl, b1⟩; have g1 : GB w1 w.heap.size ba bb (bc) bd := Blk.below (Blk.new _ _ _) b1 (by simp); obtain ⟨k0, k1, k2, k3⟩ := GB.all g1; have hl1 := Blk.lt g1; have B1 : Below w.heap.size w w1 := below_next ((Below.refl _ _).alloc (Nat.le_refl _) _) b1))
 refine (HG.out _).mono ?_
 rintro e w3 ⟨g, y, l3, yok, yB, yS, b3, himg, hany⟩
 have hP : ¬ (0 : Int) < y.peak := by have := yok.p1; rw [yB, nought_max] at this; omega
 have hS : ¬ (0 : Int) < y.steps := by have := yok.t1; rw [yS, nought_max] at this; omega
 obtain ⟨pk, hpk⟩ : ∃ pk, y.peak = pk := ⟨_, rfl⟩
 obtain ⟨st, hst⟩ : ∃ st, y.steps = st := ⟨_, rfl⟩
 rw [hpk] at hP
 rw [hst] at hS
 have hPd := decide_eq_false hP
 have hSd := decide_eq_false hS
 have HPK := Lib.hid hpk
 have HST := Lib.hid hst
 have B3 := below_next B1 b3
 have g3 : GB w3 w.heap.size ba bb (bc) bd := Blk.below g1 b3 hl1
 clear hpk hst yB yS yok b1 b3 B1 g1 k0 k1 k2 k3 hl1
 have HIMG := Lib.hid himg
 clear himg
 cases hany with
 | spent a ha hr hb0 hen =>
  subst hen
  have haI : (a : Int) ≤ (s.size : Int) := by omega
  have ha0 : (0 : Int) ≤ (a : Int) := by omega
  have HRB : Hid (decide (y.reason ≠ 0) = true) := Lib.hid (decide_eq_true hr)
  have HB0 := Lib.hid hb0
  clear ha hr hb0
  have I4 : IB ((w3.alloc (.cells #[.int .i64 0, .int .i64 0, .slice none 0 0] 32)).alloc (.cells #[.int .i64 4, .int .i64 3, .int .i64 (a : Int)] 34)) w3.heap.size 0 0 none 0 0 := Blk.alloc (Blk.new _ _ _) _
  have F4 : FB ((w3.alloc (.cells #[.int .i64 0, .int .i64 0, .slice none 0 0] 32)).alloc (.cells #[.int .i64 4, .int .i64 3, .int .i64 (a : Int)] 34)) (w3.heap.size + 1) 4 3 (a : Int) := Blk.new_at _ _ _ (by simp)
  have L4 : LedAt ((w3.alloc (.cells #[.int .i64 0, .int .i64 0, .slice none 0 0] 32)).alloc (.cells #[.int .i64 4, .int .i64 3, .int .i64 (a : Int)] 34)) g y := Blk.alloc (Blk.alloc l3 _) _
  have G4 : GB ((w3.alloc (.cells #[.int .i64 0, .int .i64 0, .slice none 0 0] 32)).alloc (.cells #[.int .i64 4, .int .i64 3, .int .i64 (a : Int)] 34)) w.heap.size ba bb (bc) bd := Blk.alloc (Blk.alloc g3 _) _
  have B4 : Below w.heap.size w ((w3.alloc (.cells #[.int .i64 0, .int .i64 0, .slice none 0 0] 32)).alloc (.cells #[.int .i64 4, .int .i64 3, .int .i64 (a : Int)] 34)) := (B3.alloc B3.size _).alloc (by have := B3.size; simp; omega) _
  have T4 : True := trivial
  go_wp2_with fail
  generalize (w3.alloc (.cells #[.int .i64 0, .int .i64 0, .slice none 0 0] 32)).alloc (.cells #[.int .i64 4, .int .i64 3, .int .i64 (a : Int)] 34) = w4 at I4 F4 L4 G4 B4 T4 ⊢
  generalize w3.heap.size + 1 = qf at F4 ⊢
  generalize w3.heap.size = qm at I4 ⊢
  clear l3 g3 B3
  obtain ⟨c0, c1, c2, z0, z1, z2, fl⟩ := FB.all F4
  obtain ⟨e0, e1, e2, v0, v1, v2, il⟩ := IB.all I4
  obtain ⟨k0, k1, k2, k3⟩ := GB.all G4
  go_quiet ((first | (go_at_call 26; exact Calls.quiet_of_same ((peak_at (x := y) (g := g) (by first | exact L4 | exact Blk.drew L4 | exact Blk.drewN L4 _) HPK.out).mono fun _ _ ⟨h, k⟩ => ⟨h, k.symm⟩)) | (go_at_call 18; exact Calls.quiet_of_same ((steps_at27 (x := y) (g := g) (by first | exact L4 | exact Blk.drew L4 | exact Blk.drewN L4 _) HST.out).mono fun _ _ ⟨h, k⟩ => ⟨h, k.symm⟩))))
  all_goals clear k0 k1 k2 k3
  all_goals go_wp2_with (first
   | (go_at_call 17; refine (broken_at (x := y) (g := g) (by first | exact L4 | exact Blk.drew L4 | exact Blk.drewN L4 _) HRB.out).mono ?_; rintro e w6 ⟨rfl, rfl⟩)
   | (go_at_call 25; refine (bytes_at (x := y) (g := g) (by first | exact L4 | exact Blk.drew L4 | exact Blk.drewN L4 _) HB0.out).mono ?_; rintro e w7 ⟨rfl, rfl⟩)
   | (go_at_call 27; refine (same_bool (same_self 0 0 []) (bytesNone _) (bytesNone _)).mono ?_; rintro e w8 ⟨rfl, b8⟩)
   | (go_at_call 19; refine (awake15_any _).mono ?_; rintro e w9 ⟨rfl, b9⟩))
  all_goals go_ret
  all_goals exact ⟨rfl, below_next (below_next (by first | exact B4 | exact B4.drew | exact below_drewN B4 _) b8) b9⟩
 | bad k a hk0 hk4 ht hen =>
  subst hen
  have hkI : ¬ (k : Int) = 4 := by omega
  have hkI0 : ¬ (k : Int) = 0 := by omega
  have HT := Lib.hid ht
  clear hk0 hk4 ht
  have I4 : IB ((w3.alloc (.cells #[.int .i64 0, .int .i64 0, .slice none 0 0] 32)).alloc (.cells #[.int .i64 (k : Int), .int .i64 3, .int .i64 (a : Int)] 34)) w3.heap.size 0 0 none 0 0 := Blk.alloc (Blk.new _ _ _) _
  have F4 : FB ((w3.alloc (.cells #[.int .i64 0, .int .i64 0, .slice none 0 0] 32)).alloc (.cells #[.int .i64 (k : Int), .int .i64 3, .int .i64 (a : Int)] 34)) (w3.heap.size + 1) (k : Int) 3 (a : Int) := Blk.new_at _ _ _ (by simp)
  have L4 : LedAt ((w3.alloc (.cells #[.int .i64 0, .int .i64 0, .slice none 0 0] 32)).alloc (.cells #[.int .i64 (k : Int), .int .i64 3, .int .i64 (a : Int)] 34)) g y := Blk.alloc (Blk.alloc l3 _) _
  have G4 : GB ((w3.alloc (.cells #[.int .i64 0, .int .i64 0, .slice none 0 0] 32)).alloc (.cells #[.int .i64 (k : Int), .int .i64 3, .int .i64 (a : Int)] 34)) w.heap.size ba bb (bc) bd := Blk.alloc (Blk.alloc g3 _) _
  have B4 : Below w.heap.size w ((w3.alloc (.cells #[.int .i64 0, .int .i64 0, .slice none 0 0] 32)).alloc (.cells #[.int .i64 (k : Int), .int .i64 3, .int .i64 (a : Int)] 34)) := (B3.alloc B3.size _).alloc (by have := B3.size; simp; omega) _
  have T4 : True := trivial
  go_wp2_with fail
  generalize (w3.alloc (.cells #[.int .i64 0, .int .i64 0, .slice none 0 0] 32)).alloc (.cells #[.int .i64 (k : Int), .int .i64 3, .int .i64 (a : Int)] 34) = w4 at I4 F4 L4 G4 B4 T4 ⊢
  generalize w3.heap.size + 1 = qf at F4 ⊢
  generalize w3.heap.size = qm at I4 ⊢
  clear l3 g3 B3
  obtain ⟨c0, c1, c2, z0, z1, z2, fl⟩ := FB.all F4
  obtain ⟨e0, e1, e2, v0, v1, v2, il⟩ := IB.all I4
  obtain ⟨k0, k1, k2, k3⟩ := GB.all G4
  go_quiet ((first | (go_at_call 26; exact Calls.quiet_of_same ((peak_at (x := y) (g := g) (by first | exact L4 | exact Blk.drew L4 | exact Blk.drewN L4 _) HPK.out).mono fun _ _ ⟨h, k⟩ => ⟨h, k.symm⟩)) | (go_at_call 18; exact Calls.quiet_of_same ((steps_at27 (x := y) (g := g) (by first | exact L4 | exact Blk.drew L4 | exact Blk.drewN L4 _) HST.out).mono fun _ _ ⟨h, k⟩ => ⟨h, k.symm⟩))))
  all_goals clear k0 k1 k2 k3
  all_goals go_wp2_with (first
   | (go_at_call 22; refine (wide15 _).mono ?_; rintro e w6 ⟨rfl, b6⟩)
   | (go_at_call 21; refine (HN.out _).mono ?_; rintro e w7 ⟨g7, y7, l7, hy7, b7, hor⟩; obtain ⟨k', a', _, hr, rfl⟩ : ∃ k' a' : Nat, k' ≠ 0 ∧ DRes.bad k a = .bad k' a' ∧ e = .returned (.tuple #[.agg #[.int .i64 0, .int .i64 0, .slice none 0 0], .agg #[.int .i64 (k' : Int), .int .i64 3, .int .i64 (a' : Int)], .pointer (some ⟨g7, 0, none⟩)]) := (by rw [HT.out] at hor; exact hor.elim id (fun ⟨_, _, _, _, h, _⟩ => by cases h)); obtain ⟨rfl, rfl⟩ := DRes.bad_inj hr; have F7 : FB w7 qf (k : Int) 3 (a : Int) := FB.below (FB.below (by first | exact F4 | exact Blk.drew F4 | exact Blk.drewN F4 _) b6) b7; have I6 : IB w6 qm 0 0 none 0 0 := Blk.below (by first | exact I4 | exact Blk.drew I4 | exact Blk.drewN I4 _) b6 (Blk.lt I4); have I7 : IB w7 qm 0 0 none 0 0 := Blk.below I6 b7 (Blk.lt I6); clear c0 c1 c2 z0 z1 z2 fl e0 e1 e2 v0 v1 v2 il; obtain ⟨c0, c1, c2, z0, z1, z2, fl⟩ := FB.all F7; obtain ⟨e0, e1, e2, v0, v1, v2, il⟩ := IB.all I7)
   | (go_at_call 12; refine (refSame_bool (same_self 0 0 []) (bytesNone _) (bytesNone _)).mono ?_; rintro e w8 ⟨rfl, b8⟩; have F8 : FB w8 qf (k : Int) 3 (a : Int) := FB.below (Blk.alloc (Blk.alloc F7 _) _) b8; clear c0 c1 c2 z0 z1 z2 fl; obtain ⟨c0, c1, c2, z0, z1, z2, fl⟩ := FB.all F8)
   | (go_at_call 19; refine (awake15_any _).mono ?_; rintro e w9 ⟨rfl, b9⟩))
  all_goals go_ret
  all_goals
   have B7 := below_next (below_next (by first | exact B4 | exact B4.drew | exact below_drewN B4 _) b6) b7
   have B7' := B7.alloc B7.size (.cells #[.int .i64 0, .int .i64 0, .slice none 0 0] 32)
   have B8 := below_next (B7'.alloc B7'.size (.cells #[.int .i64 (k : Int), .int .i64 3, .int .i64 (a : Int)] 34)) b8
   exact ⟨rfl, below_next B8 b9⟩
 | img W' H' l cc ht hen hbt =>
  subst hen
  obtain ⟨hWb, hHb⟩ := HIMG.out _ _ _ _ _ _ _ rfl
  have HT := Lib.hid ht
  obtain ⟨ln, hln⟩ : ∃ ln, l.length = ln := ⟨_, rfl⟩
  rw [hln] at hbt ⊢
  have HLN := Lib.hid hln
  clear ht hln
  have I4 : IB ((w3.alloc (.cells #[.int .i64 (W' : Int), .int .i64 (H' : Int), .slice (some ⟨cc, 0, none⟩) ln ln] 32)).alloc (.cells #[.int .i64 0, .int .i64 0, .int .i64 0] 34)) w3.heap.size (W' : Int) (H' : Int) (some ⟨cc, 0, none⟩) ln ln := Blk.alloc (Blk.new _ _ _) _
  have F4 : FB ((w3.alloc (.cells #[.int .i64 (W' : Int), .int .i64 (H' : Int), .slice (some ⟨cc, 0, none⟩) ln ln] 32)).alloc (.cells #[.int .i64 0, .int .i64 0, .int .i64 0] 34)) (w3.heap.size + 1) 0 0 0 := Blk.new_at _ _ _ (by simp)
  have L4 : LedAt ((w3.alloc (.cells #[.int .i64 (W' : Int), .int .i64 (H' : Int), .slice (some ⟨cc, 0, none⟩) ln ln] 32)).alloc (.cells #[.int .i64 0, .int .i64 0, .int .i64 0] 34)) g y := Blk.alloc (Blk.alloc l3 _) _
  have G4 : GB ((w3.alloc (.cells #[.int .i64 (W' : Int), .int .i64 (H' : Int), .slice (some ⟨cc, 0, none⟩) ln ln] 32)).alloc (.cells #[.int .i64 0, .int .i64 0, .int .i64 0] 34)) w.heap.size ba bb (bc) bd := Blk.alloc (Blk.alloc g3 _) _
  have B4 : Below w.heap.size w ((w3.alloc (.cells #[.int .i64 (W' : Int), .int .i64 (H' : Int), .slice (some ⟨cc, 0, none⟩) ln ln] 32)).alloc (.cells #[.int .i64 0, .int .i64 0, .int .i64 0] 34)) := (B3.alloc B3.size _).alloc (by have := B3.size; simp; omega) _
  have T4 : BytesAt ((w3.alloc (.cells #[.int .i64 (W' : Int), .int .i64 (H' : Int), .slice (some ⟨cc, 0, none⟩) ln ln] 32)).alloc (.cells #[.int .i64 0, .int .i64 0, .int .i64 0] 34)) (some ⟨cc, 0, none⟩) ln l := (hbt.alloc _).alloc _
  go_wp2_with fail
  generalize (w3.alloc (.cells #[.int .i64 (W' : Int), .int .i64 (H' : Int), .slice (some ⟨cc, 0, none⟩) ln ln] 32)).alloc (.cells #[.int .i64 0, .int .i64 0, .int .i64 0] 34) = w4 at I4 F4 L4 G4 B4 T4 ⊢
  generalize w3.heap.size + 1 = qf at F4 ⊢
  generalize w3.heap.size = qm at I4 ⊢
  clear l3 g3 B3
  obtain ⟨c0, c1, c2, z0, z1, z2, fl⟩ := FB.all F4
  obtain ⟨e0, e1, e2, v0, v1, v2, il⟩ := IB.all I4
  obtain ⟨k0, k1, k2, k3⟩ := GB.all G4
  go_quiet ((first | (go_at_call 26; exact Calls.quiet_of_same ((peak_at (x := y) (g := g) (by first | exact L4 | exact Blk.drew L4 | exact Blk.drewN L4 _) HPK.out).mono fun _ _ ⟨h, k⟩ => ⟨h, k.symm⟩)) | (go_at_call 18; exact Calls.quiet_of_same ((steps_at27 (x := y) (g := g) (by first | exact L4 | exact Blk.drew L4 | exact Blk.drewN L4 _) HST.out).mono fun _ _ ⟨h, k⟩ => ⟨h, k.symm⟩))))
  all_goals clear k0 k1 k2 k3
  all_goals go_wp2_with (first
   | (go_at_call 22; refine (wide15 _).mono ?_; rintro e w6 ⟨rfl, b6⟩)
   | (go_at_call 21; refine (HN.out _).mono ?_; rintro e w7 ⟨g7, y7, l7, hy7, b7, hor⟩; rw [HT.out] at hor; obtain ⟨W2, H2, m2, d2, hr, rfl, hbt7⟩ := hor.elim (fun ⟨_, _, _, h, _⟩ => by cases h) id; injection hr with hr1 hr2 hr3; subst hr1 hr2 hr3; rw [HLN.out] at hbt7 ⊢; have F7 : FB w7 qf 0 0 0 := FB.below (FB.below (by first | exact F4 | exact Blk.drew F4 | exact Blk.drewN F4 _) b6) b7; have I6 : IB w6 qm (W' : Int) (H' : Int) (some ⟨cc, 0, none⟩) ln ln := Blk.below (by first | exact I4 | exact Blk.drew I4 | exact Blk.drewN I4 _) b6 (Blk.lt I4); have I7 : IB w7 qm (W' : Int) (H' : Int) (some ⟨cc, 0, none⟩) ln ln := Blk.below I6 b7 (Blk.lt I6); have T6 : BytesAt w6 (some ⟨cc, 0, none⟩) ln l := BytesAt.below (by first | exact T4 | exact (show BytesAt w4.drew _ _ _ from T4) | exact (show BytesAt (w4.drewN _) _ _ _ from T4)) b6; have T7 := T6.below b7; have U1 := (T7.alloc (.cells #[.int .i64 (W' : Int), .int .i64 (H' : Int), .slice (some ⟨d2, 0, none⟩) ln ln] 32)).alloc (.cells #[.int .i64 0, .int .i64 0, .int .i64 0] 34); have U2 := (hbt7.alloc (.cells #[.int .i64 (W' : Int), .int .i64 (H' : Int), .slice (some ⟨d2, 0, none⟩) ln ln] 32)).alloc (.cells #[.int .i64 0, .int .i64 0, .int .i64 0] 34); clear c0 c1 c2 z0 z1 z2 fl e0 e1 e2 v0 v1 v2 il; obtain ⟨c0, c1, c2, z0, z1, z2, fl⟩ := FB.all F7; obtain ⟨e0, e1, e2, v0, v1, v2, il⟩ := IB.all I7)
   | (go_at_call 12; refine (refSame_bool (same_self _ _ _) U1 U2).mono ?_; rintro e w8 ⟨rfl, b8⟩; have G6 : GB w6 w.heap.size ba bb (bc) bd := Blk.below (by first | exact G4 | exact Blk.drew G4 | exact Blk.drewN G4 _) b6 (Blk.lt G4); have G7 : GB w7 w.heap.size ba bb (bc) bd := Blk.below G6 b7 (Blk.lt G6); have G8 : GB w8 w.heap.size ba bb (bc) bd := Blk.below (Blk.alloc (Blk.alloc G7 _) _) b8 (Blk.lt (Blk.alloc (Blk.alloc G7 _) _)); have I8 : IB w8 qm (W' : Int) (H' : Int) (some ⟨cc, 0, none⟩) ln ln := Blk.below (Blk.alloc (Blk.alloc I7 _) _) b8 (Blk.lt (Blk.alloc (Blk.alloc I7 _) _)); have F8 : FB w8 qf 0 0 0 := FB.below (Blk.alloc (Blk.alloc F7 _) _) b8; clear c0 c1 c2 z0 z1 z2 fl e0 e1 e2 v0 v1 v2 il; obtain ⟨c0, c1, c2, z0, z1, z2, fl⟩ := FB.all F8; obtain ⟨e0, e1, e2, v0, v1, v2, il⟩ := IB.all I8; obtain ⟨k0, k1, k2, k3⟩ := GB.all G8)
   | (go_at_call 19; refine (awake15_any _).mono ?_; rintro e w9 ⟨rfl, b9⟩))
  all_goals go_ret
  all_goals
   have B7 := below_next (below_next (by first | exact B4 | exact B4.drew | exact below_drewN B4 _) b6) b7
   have B7' := B7.alloc B7.size (.cells #[.int .i64 (W' : Int), .int .i64 (H' : Int), .slice (some ⟨d2, 0, none⟩) ln ln] 32)
   have B8 := below_next (B7'.alloc B7'.size (.cells #[.int .i64 0, .int .i64 0, .int .i64 0] 34)) b8
   exact ⟨rfl, below_next B8 b9⟩
set_option maxRecDepth 100000 in
set_option maxHeartbeats 40000000 in
theorem pnmBudgets_np {s : ByteArray} {ba bb bc bd : Int} {W H : Nat} (hs : s.size ≤ 600) (hp : fits ba ∧ fits bb ∧ fits bc ∧ fits bd) (hc : bc ≤ 262144 ∧ bc < 0) (hd : ¬ bd < 0) (u : pnmSides s = (W, H)) (hW : W ≤ 100) (hH : H ≤ 100) (w : World) :
  Calls Tryz.prog 7 #[.string s, .agg #[.int .i64 ba, .int .i64 bb, .int .i64 bc, .int .i64 bd]] w fun e w' => e = .returned (.bool true) ∧ Below w.heap.size w w' := by
 have hsI : ¬ (600 : Int) < (s.size : Int) := by omega
 have hWI : ¬ (100 : Int) < (W : Int) := by omega
 have hHI : ¬ (100 : Int) < (H : Int) := by omega
 have hsm : s.size ≤ 1099511627776 := by omega
 have HR0 := fun w => refPnmSides hsm w
 rw [u] at HR0
 have HR := Lib.hid HR0
 have HG := Lib.hid (fun w => pnmRunG (s := s) (ba := ba) (bb := bb) (bc := bc) (bd := bd) hsm hp.1.2 hp.2.1.2 (by have := hp.2.2.1.2; omega) hp.2.2.2.2 w)
 have HN := Lib.hid (fun w => pnmRunW hs (by rw [u]; exact hW) (by rw [u]; exact hH) w)
 obtain ⟨hc1, hc2⟩ := hc
 clear HR0 u hp hW hH hs hsm
 go_enter Tryz.func7, Tryz.ntmps7
 go_wp2_with (first
  | (go_at_call 20; refine (HR.out _).mono ?_; rintro e w1 ⟨rfl, b1⟩; have g1 : GB w1 w.heap.size ba bb (bc) bd := Blk.below (Blk.new _ _ _) b1 (by simp); obtain ⟨k0, k1, k2, k3⟩ := GB.all g1; have hl1 := Blk.lt g1; have B1 : Below w.heap.size w w1 := below_next ((Below.refl _ _).alloc (Nat.le_refl _) _) b1))
 refine (HG.out _).mono ?_
 rintro e w3 ⟨g, y, l3, yok, yB, yS, b3, himg, hany⟩
 have hP : ¬ (0 : Int) < y.peak := by have := yok.p1; rw [yB, nought_max] at this; omega
 have hS : ¬ (bd : Int) < y.steps := by have := yok.t1; rw [yS, nought_max] at this; omega
 obtain ⟨pk, hpk⟩ : ∃ pk, y.peak = pk := ⟨_, rfl⟩
 obtain ⟨st, hst⟩ : ∃ st, y.steps = st := ⟨_, rfl⟩
 rw [hpk] at hP
 rw [hst] at hS
 have hPd := decide_eq_false hP
 have hSd := decide_eq_false hS
 have HPK := Lib.hid hpk
 have HST := Lib.hid hst
 have B3 := below_next B1 b3
 have g3 : GB w3 w.heap.size ba bb (bc) bd := Blk.below g1 b3 hl1
 clear hpk hst yB yS yok b1 b3 B1 g1 k0 k1 k2 k3 hl1
 have HIMG := Lib.hid himg
 clear himg
 cases hany with
 | spent a ha hr hb0 hen =>
  subst hen
  have haI : (a : Int) ≤ (s.size : Int) := by omega
  have ha0 : (0 : Int) ≤ (a : Int) := by omega
  have HRB : Hid (decide (y.reason ≠ 0) = true) := Lib.hid (decide_eq_true hr)
  have HB0 := Lib.hid hb0
  clear ha hr hb0
  have I4 : IB ((w3.alloc (.cells #[.int .i64 0, .int .i64 0, .slice none 0 0] 32)).alloc (.cells #[.int .i64 4, .int .i64 3, .int .i64 (a : Int)] 34)) w3.heap.size 0 0 none 0 0 := Blk.alloc (Blk.new _ _ _) _
  have F4 : FB ((w3.alloc (.cells #[.int .i64 0, .int .i64 0, .slice none 0 0] 32)).alloc (.cells #[.int .i64 4, .int .i64 3, .int .i64 (a : Int)] 34)) (w3.heap.size + 1) 4 3 (a : Int) := Blk.new_at _ _ _ (by simp)
  have L4 : LedAt ((w3.alloc (.cells #[.int .i64 0, .int .i64 0, .slice none 0 0] 32)).alloc (.cells #[.int .i64 4, .int .i64 3, .int .i64 (a : Int)] 34)) g y := Blk.alloc (Blk.alloc l3 _) _
  have G4 : GB ((w3.alloc (.cells #[.int .i64 0, .int .i64 0, .slice none 0 0] 32)).alloc (.cells #[.int .i64 4, .int .i64 3, .int .i64 (a : Int)] 34)) w.heap.size ba bb (bc) bd := Blk.alloc (Blk.alloc g3 _) _
  have B4 : Below w.heap.size w ((w3.alloc (.cells #[.int .i64 0, .int .i64 0, .slice none 0 0] 32)).alloc (.cells #[.int .i64 4, .int .i64 3, .int .i64 (a : Int)] 34)) := (B3.alloc B3.size _).alloc (by have := B3.size; simp; omega) _
  have T4 : True := trivial
  go_wp2_with fail
  generalize (w3.alloc (.cells #[.int .i64 0, .int .i64 0, .slice none 0 0] 32)).alloc (.cells #[.int .i64 4, .int .i64 3, .int .i64 (a : Int)] 34) = w4 at I4 F4 L4 G4 B4 T4 ⊢
  generalize w3.heap.size + 1 = qf at F4 ⊢
  generalize w3.heap.size = qm at I4 ⊢
  clear l3 g3 B3
  obtain ⟨c0, c1, c2, z0, z1, z2, fl⟩ := FB.all F4
  obtain ⟨e0, e1, e2, v0, v1, v2, il⟩ := IB.all I4
  obtain ⟨k0, k1, k2, k3⟩ := GB.all G4
  go_quiet ((first | (go_at_call 26; exact Calls.quiet_of_same ((peak_at (x := y) (g := g) (by first | exact L4 | exact Blk.drew L4 | exact Blk.drewN L4 _) HPK.out).mono fun _ _ ⟨h, k⟩ => ⟨h, k.symm⟩)) | (go_at_call 18; exact Calls.quiet_of_same ((steps_at27 (x := y) (g := g) (by first | exact L4 | exact Blk.drew L4 | exact Blk.drewN L4 _) HST.out).mono fun _ _ ⟨h, k⟩ => ⟨h, k.symm⟩))))
  all_goals clear k0 k1 k2 k3
  all_goals go_wp2_with (first
   | (go_at_call 17; refine (broken_at (x := y) (g := g) (by first | exact L4 | exact Blk.drew L4 | exact Blk.drewN L4 _) HRB.out).mono ?_; rintro e w6 ⟨rfl, rfl⟩)
   | (go_at_call 25; refine (bytes_at (x := y) (g := g) (by first | exact L4 | exact Blk.drew L4 | exact Blk.drewN L4 _) HB0.out).mono ?_; rintro e w7 ⟨rfl, rfl⟩)
   | (go_at_call 27; refine (same_bool (same_self 0 0 []) (bytesNone _) (bytesNone _)).mono ?_; rintro e w8 ⟨rfl, b8⟩)
   | (go_at_call 19; refine (awake15_any _).mono ?_; rintro e w9 ⟨rfl, b9⟩))
  all_goals go_ret
  all_goals exact ⟨rfl, below_next (below_next (by first | exact B4 | exact B4.drew | exact below_drewN B4 _) b8) b9⟩
 | bad k a hk0 hk4 ht hen =>
  subst hen
  have hkI : ¬ (k : Int) = 4 := by omega
  have hkI0 : ¬ (k : Int) = 0 := by omega
  have HT := Lib.hid ht
  clear hk0 hk4 ht
  have I4 : IB ((w3.alloc (.cells #[.int .i64 0, .int .i64 0, .slice none 0 0] 32)).alloc (.cells #[.int .i64 (k : Int), .int .i64 3, .int .i64 (a : Int)] 34)) w3.heap.size 0 0 none 0 0 := Blk.alloc (Blk.new _ _ _) _
  have F4 : FB ((w3.alloc (.cells #[.int .i64 0, .int .i64 0, .slice none 0 0] 32)).alloc (.cells #[.int .i64 (k : Int), .int .i64 3, .int .i64 (a : Int)] 34)) (w3.heap.size + 1) (k : Int) 3 (a : Int) := Blk.new_at _ _ _ (by simp)
  have L4 : LedAt ((w3.alloc (.cells #[.int .i64 0, .int .i64 0, .slice none 0 0] 32)).alloc (.cells #[.int .i64 (k : Int), .int .i64 3, .int .i64 (a : Int)] 34)) g y := Blk.alloc (Blk.alloc l3 _) _
  have G4 : GB ((w3.alloc (.cells #[.int .i64 0, .int .i64 0, .slice none 0 0] 32)).alloc (.cells #[.int .i64 (k : Int), .int .i64 3, .int .i64 (a : Int)] 34)) w.heap.size ba bb (bc) bd := Blk.alloc (Blk.alloc g3 _) _
  have B4 : Below w.heap.size w ((w3.alloc (.cells #[.int .i64 0, .int .i64 0, .slice none 0 0] 32)).alloc (.cells #[.int .i64 (k : Int), .int .i64 3, .int .i64 (a : Int)] 34)) := (B3.alloc B3.size _).alloc (by have := B3.size; simp; omega) _
  have T4 : True := trivial
  go_wp2_with fail
  generalize (w3.alloc (.cells #[.int .i64 0, .int .i64 0, .slice none 0 0] 32)).alloc (.cells #[.int .i64 (k : Int), .int .i64 3, .int .i64 (a : Int)] 34) = w4 at I4 F4 L4 G4 B4 T4 ⊢
  generalize w3.heap.size + 1 = qf at F4 ⊢
  generalize w3.heap.size = qm at I4 ⊢
  clear l3 g3 B3
  obtain ⟨c0, c1, c2, z0, z1, z2, fl⟩ := FB.all F4
  obtain ⟨e0, e1, e2, v0, v1, v2, il⟩ := IB.all I4
  obtain ⟨k0, k1, k2, k3⟩ := GB.all G4
  go_quiet ((first | (go_at_call 26; exact Calls.quiet_of_same ((peak_at (x := y) (g := g) (by first | exact L4 | exact Blk.drew L4 | exact Blk.drewN L4 _) HPK.out).mono fun _ _ ⟨h, k⟩ => ⟨h, k.symm⟩)) | (go_at_call 18; exact Calls.quiet_of_same ((steps_at27 (x := y) (g := g) (by first | exact L4 | exact Blk.drew L4 | exact Blk.drewN L4 _) HST.out).mono fun _ _ ⟨h, k⟩ => ⟨h, k.symm⟩))))
  all_goals clear k0 k1 k2 k3
  all_goals go_wp2_with (first
   | (go_at_call 22; refine (wide15 _).mono ?_; rintro e w6 ⟨rfl, b6⟩)
   | (go_at_call 21; refine (HN.out _).mono ?_; rintro e w7 ⟨g7, y7, l7, hy7, b7, hor⟩; obtain ⟨k', a', _, hr, rfl⟩ : ∃ k' a' : Nat, k' ≠ 0 ∧ DRes.bad k a = .bad k' a' ∧ e = .returned (.tuple #[.agg #[.int .i64 0, .int .i64 0, .slice none 0 0], .agg #[.int .i64 (k' : Int), .int .i64 3, .int .i64 (a' : Int)], .pointer (some ⟨g7, 0, none⟩)]) := (by rw [HT.out] at hor; exact hor.elim id (fun ⟨_, _, _, _, h, _⟩ => by cases h)); obtain ⟨rfl, rfl⟩ := DRes.bad_inj hr; have F7 : FB w7 qf (k : Int) 3 (a : Int) := FB.below (FB.below (by first | exact F4 | exact Blk.drew F4 | exact Blk.drewN F4 _) b6) b7; have I6 : IB w6 qm 0 0 none 0 0 := Blk.below (by first | exact I4 | exact Blk.drew I4 | exact Blk.drewN I4 _) b6 (Blk.lt I4); have I7 : IB w7 qm 0 0 none 0 0 := Blk.below I6 b7 (Blk.lt I6); clear c0 c1 c2 z0 z1 z2 fl e0 e1 e2 v0 v1 v2 il; obtain ⟨c0, c1, c2, z0, z1, z2, fl⟩ := FB.all F7; obtain ⟨e0, e1, e2, v0, v1, v2, il⟩ := IB.all I7)
   | (go_at_call 12; refine (refSame_bool (same_self 0 0 []) (bytesNone _) (bytesNone _)).mono ?_; rintro e w8 ⟨rfl, b8⟩; have F8 : FB w8 qf (k : Int) 3 (a : Int) := FB.below (Blk.alloc (Blk.alloc F7 _) _) b8; clear c0 c1 c2 z0 z1 z2 fl; obtain ⟨c0, c1, c2, z0, z1, z2, fl⟩ := FB.all F8)
   | (go_at_call 19; refine (awake15_any _).mono ?_; rintro e w9 ⟨rfl, b9⟩))
  all_goals go_ret
  all_goals
   have B7 := below_next (below_next (by first | exact B4 | exact B4.drew | exact below_drewN B4 _) b6) b7
   have B7' := B7.alloc B7.size (.cells #[.int .i64 0, .int .i64 0, .slice none 0 0] 32)
   have B8 := below_next (B7'.alloc B7'.size (.cells #[.int .i64 (k : Int), .int .i64 3, .int .i64 (a : Int)] 34)) b8
   exact ⟨rfl, below_next B8 b9⟩
 | img W' H' l cc ht hen hbt =>
  subst hen
  obtain ⟨hWb, hHb⟩ := HIMG.out _ _ _ _ _ _ _ rfl
  have HT := Lib.hid ht
  obtain ⟨ln, hln⟩ : ∃ ln, l.length = ln := ⟨_, rfl⟩
  rw [hln] at hbt ⊢
  have HLN := Lib.hid hln
  clear ht hln
  have I4 : IB ((w3.alloc (.cells #[.int .i64 (W' : Int), .int .i64 (H' : Int), .slice (some ⟨cc, 0, none⟩) ln ln] 32)).alloc (.cells #[.int .i64 0, .int .i64 0, .int .i64 0] 34)) w3.heap.size (W' : Int) (H' : Int) (some ⟨cc, 0, none⟩) ln ln := Blk.alloc (Blk.new _ _ _) _
  have F4 : FB ((w3.alloc (.cells #[.int .i64 (W' : Int), .int .i64 (H' : Int), .slice (some ⟨cc, 0, none⟩) ln ln] 32)).alloc (.cells #[.int .i64 0, .int .i64 0, .int .i64 0] 34)) (w3.heap.size + 1) 0 0 0 := Blk.new_at _ _ _ (by simp)
  have L4 : LedAt ((w3.alloc (.cells #[.int .i64 (W' : Int), .int .i64 (H' : Int), .slice (some ⟨cc, 0, none⟩) ln ln] 32)).alloc (.cells #[.int .i64 0, .int .i64 0, .int .i64 0] 34)) g y := Blk.alloc (Blk.alloc l3 _) _
  have G4 : GB ((w3.alloc (.cells #[.int .i64 (W' : Int), .int .i64 (H' : Int), .slice (some ⟨cc, 0, none⟩) ln ln] 32)).alloc (.cells #[.int .i64 0, .int .i64 0, .int .i64 0] 34)) w.heap.size ba bb (bc) bd := Blk.alloc (Blk.alloc g3 _) _
  have B4 : Below w.heap.size w ((w3.alloc (.cells #[.int .i64 (W' : Int), .int .i64 (H' : Int), .slice (some ⟨cc, 0, none⟩) ln ln] 32)).alloc (.cells #[.int .i64 0, .int .i64 0, .int .i64 0] 34)) := (B3.alloc B3.size _).alloc (by have := B3.size; simp; omega) _
  have T4 : BytesAt ((w3.alloc (.cells #[.int .i64 (W' : Int), .int .i64 (H' : Int), .slice (some ⟨cc, 0, none⟩) ln ln] 32)).alloc (.cells #[.int .i64 0, .int .i64 0, .int .i64 0] 34)) (some ⟨cc, 0, none⟩) ln l := (hbt.alloc _).alloc _
  go_wp2_with fail
  generalize (w3.alloc (.cells #[.int .i64 (W' : Int), .int .i64 (H' : Int), .slice (some ⟨cc, 0, none⟩) ln ln] 32)).alloc (.cells #[.int .i64 0, .int .i64 0, .int .i64 0] 34) = w4 at I4 F4 L4 G4 B4 T4 ⊢
  generalize w3.heap.size + 1 = qf at F4 ⊢
  generalize w3.heap.size = qm at I4 ⊢
  clear l3 g3 B3
  obtain ⟨c0, c1, c2, z0, z1, z2, fl⟩ := FB.all F4
  obtain ⟨e0, e1, e2, v0, v1, v2, il⟩ := IB.all I4
  obtain ⟨k0, k1, k2, k3⟩ := GB.all G4
  go_quiet ((first | (go_at_call 26; exact Calls.quiet_of_same ((peak_at (x := y) (g := g) (by first | exact L4 | exact Blk.drew L4 | exact Blk.drewN L4 _) HPK.out).mono fun _ _ ⟨h, k⟩ => ⟨h, k.symm⟩)) | (go_at_call 18; exact Calls.quiet_of_same ((steps_at27 (x := y) (g := g) (by first | exact L4 | exact Blk.drew L4 | exact Blk.drewN L4 _) HST.out).mono fun _ _ ⟨h, k⟩ => ⟨h, k.symm⟩))))
  all_goals clear k0 k1 k2 k3
  all_goals go_wp2_with (first
   | (go_at_call 22; refine (wide15 _).mono ?_; rintro e w6 ⟨rfl, b6⟩)
   | (go_at_call 21; refine (HN.out _).mono ?_; rintro e w7 ⟨g7, y7, l7, hy7, b7, hor⟩; rw [HT.out] at hor; obtain ⟨W2, H2, m2, d2, hr, rfl, hbt7⟩ := hor.elim (fun ⟨_, _, _, h, _⟩ => by cases h) id; injection hr with hr1 hr2 hr3; subst hr1 hr2 hr3; rw [HLN.out] at hbt7 ⊢; have F7 : FB w7 qf 0 0 0 := FB.below (FB.below (by first | exact F4 | exact Blk.drew F4 | exact Blk.drewN F4 _) b6) b7; have I6 : IB w6 qm (W' : Int) (H' : Int) (some ⟨cc, 0, none⟩) ln ln := Blk.below (by first | exact I4 | exact Blk.drew I4 | exact Blk.drewN I4 _) b6 (Blk.lt I4); have I7 : IB w7 qm (W' : Int) (H' : Int) (some ⟨cc, 0, none⟩) ln ln := Blk.below I6 b7 (Blk.lt I6); have T6 : BytesAt w6 (some ⟨cc, 0, none⟩) ln l := BytesAt.below (by first | exact T4 | exact (show BytesAt w4.drew _ _ _ from T4) | exact (show BytesAt (w4.drewN _) _ _ _ from T4)) b6; have T7 := T6.below b7; have U1 := (T7.alloc (.cells #[.int .i64 (W' : Int), .int .i64 (H' : Int), .slice (some ⟨d2, 0, none⟩) ln ln] 32)).alloc (.cells #[.int .i64 0, .int .i64 0, .int .i64 0] 34); have U2 := (hbt7.alloc (.cells #[.int .i64 (W' : Int), .int .i64 (H' : Int), .slice (some ⟨d2, 0, none⟩) ln ln] 32)).alloc (.cells #[.int .i64 0, .int .i64 0, .int .i64 0] 34); clear c0 c1 c2 z0 z1 z2 fl e0 e1 e2 v0 v1 v2 il; obtain ⟨c0, c1, c2, z0, z1, z2, fl⟩ := FB.all F7; obtain ⟨e0, e1, e2, v0, v1, v2, il⟩ := IB.all I7)
   | (go_at_call 12; refine (refSame_bool (same_self _ _ _) U1 U2).mono ?_; rintro e w8 ⟨rfl, b8⟩; have G6 : GB w6 w.heap.size ba bb (bc) bd := Blk.below (by first | exact G4 | exact Blk.drew G4 | exact Blk.drewN G4 _) b6 (Blk.lt G4); have G7 : GB w7 w.heap.size ba bb (bc) bd := Blk.below G6 b7 (Blk.lt G6); have G8 : GB w8 w.heap.size ba bb (bc) bd := Blk.below (Blk.alloc (Blk.alloc G7 _) _) b8 (Blk.lt (Blk.alloc (Blk.alloc G7 _) _)); have I8 : IB w8 qm (W' : Int) (H' : Int) (some ⟨cc, 0, none⟩) ln ln := Blk.below (Blk.alloc (Blk.alloc I7 _) _) b8 (Blk.lt (Blk.alloc (Blk.alloc I7 _) _)); have F8 : FB w8 qf 0 0 0 := FB.below (Blk.alloc (Blk.alloc F7 _) _) b8; clear c0 c1 c2 z0 z1 z2 fl e0 e1 e2 v0 v1 v2 il; obtain ⟨c0, c1, c2, z0, z1, z2, fl⟩ := FB.all F8; obtain ⟨e0, e1, e2, v0, v1, v2, il⟩ := IB.all I8; obtain ⟨k0, k1, k2, k3⟩ := GB.all G8)
   | (go_at_call 19; refine (awake15_any _).mono ?_; rintro e w9 ⟨rfl, b9⟩))
  all_goals go_ret
  all_goals
   have B7 := below_next (below_next (by first | exact B4 | exact B4.drew | exact below_drewN B4 _) b6) b7
   have B7' := B7.alloc B7.size (.cells #[.int .i64 (W' : Int), .int .i64 (H' : Int), .slice (some ⟨d2, 0, none⟩) ln ln] 32)
   have B8 := below_next (B7'.alloc B7'.size (.cells #[.int .i64 0, .int .i64 0, .int .i64 0] 34)) b8
   exact ⟨rfl, below_next B8 b9⟩
set_option maxRecDepth 100000 in
set_option maxHeartbeats 40000000 in
theorem pnmBudgets_mn {s : ByteArray} {ba bb bc bd : Int} {W H : Nat} (hs : s.size ≤ 600) (hp : fits ba ∧ fits bb ∧ fits bc ∧ fits bd) (hc : bc ≤ 262144 ∧ ¬ bc < 0) (hd : bd < 0) (u : pnmSides s = (W, H)) (hW : W ≤ 100) (hH : H ≤ 100) (w : World) :
  Calls Tryz.prog 7 #[.string s, .agg #[.int .i64 ba, .int .i64 bb, .int .i64 bc, .int .i64 bd]] w fun e w' => e = .returned (.bool true) ∧ Below w.heap.size w w' := by
 have hsI : ¬ (600 : Int) < (s.size : Int) := by omega
 have hWI : ¬ (100 : Int) < (W : Int) := by omega
 have hHI : ¬ (100 : Int) < (H : Int) := by omega
 have hsm : s.size ≤ 1099511627776 := by omega
 have HR0 := fun w => refPnmSides hsm w
 rw [u] at HR0
 have HR := Lib.hid HR0
 have HG := Lib.hid (fun w => pnmRunG (s := s) (ba := ba) (bb := bb) (bc := bc) (bd := bd) hsm hp.1.2 hp.2.1.2 (by have := hp.2.2.1.2; omega) hp.2.2.2.2 w)
 have HN := Lib.hid (fun w => pnmRunW hs (by rw [u]; exact hW) (by rw [u]; exact hH) w)
 obtain ⟨hc1, hc2⟩ := hc
 clear HR0 u hp hW hH hs hsm
 go_enter Tryz.func7, Tryz.ntmps7
 go_wp2_with (first
  | (go_at_call 20; refine (HR.out _).mono ?_; rintro e w1 ⟨rfl, b1⟩; have g1 : GB w1 w.heap.size ba bb (bc) bd := Blk.below (Blk.new _ _ _) b1 (by simp); obtain ⟨k0, k1, k2, k3⟩ := GB.all g1; have hl1 := Blk.lt g1; have B1 : Below w.heap.size w w1 := below_next ((Below.refl _ _).alloc (Nat.le_refl _) _) b1))
 refine (HG.out _).mono ?_
 rintro e w3 ⟨g, y, l3, yok, yB, yS, b3, himg, hany⟩
 have hP : ¬ (bc : Int) < y.peak := by have := yok.p1; rw [yB, nought_max] at this; omega
 have hS : ¬ (0 : Int) < y.steps := by have := yok.t1; rw [yS, nought_max] at this; omega
 obtain ⟨pk, hpk⟩ : ∃ pk, y.peak = pk := ⟨_, rfl⟩
 obtain ⟨st, hst⟩ : ∃ st, y.steps = st := ⟨_, rfl⟩
 rw [hpk] at hP
 rw [hst] at hS
 have hPd := decide_eq_false hP
 have hSd := decide_eq_false hS
 have HPK := Lib.hid hpk
 have HST := Lib.hid hst
 have B3 := below_next B1 b3
 have g3 : GB w3 w.heap.size ba bb (bc) bd := Blk.below g1 b3 hl1
 clear hpk hst yB yS yok b1 b3 B1 g1 k0 k1 k2 k3 hl1
 have HIMG := Lib.hid himg
 clear himg
 cases hany with
 | spent a ha hr hb0 hen =>
  subst hen
  have haI : (a : Int) ≤ (s.size : Int) := by omega
  have ha0 : (0 : Int) ≤ (a : Int) := by omega
  have HRB : Hid (decide (y.reason ≠ 0) = true) := Lib.hid (decide_eq_true hr)
  have HB0 := Lib.hid hb0
  clear ha hr hb0
  have I4 : IB ((w3.alloc (.cells #[.int .i64 0, .int .i64 0, .slice none 0 0] 32)).alloc (.cells #[.int .i64 4, .int .i64 3, .int .i64 (a : Int)] 34)) w3.heap.size 0 0 none 0 0 := Blk.alloc (Blk.new _ _ _) _
  have F4 : FB ((w3.alloc (.cells #[.int .i64 0, .int .i64 0, .slice none 0 0] 32)).alloc (.cells #[.int .i64 4, .int .i64 3, .int .i64 (a : Int)] 34)) (w3.heap.size + 1) 4 3 (a : Int) := Blk.new_at _ _ _ (by simp)
  have L4 : LedAt ((w3.alloc (.cells #[.int .i64 0, .int .i64 0, .slice none 0 0] 32)).alloc (.cells #[.int .i64 4, .int .i64 3, .int .i64 (a : Int)] 34)) g y := Blk.alloc (Blk.alloc l3 _) _
  have G4 : GB ((w3.alloc (.cells #[.int .i64 0, .int .i64 0, .slice none 0 0] 32)).alloc (.cells #[.int .i64 4, .int .i64 3, .int .i64 (a : Int)] 34)) w.heap.size ba bb (bc) bd := Blk.alloc (Blk.alloc g3 _) _
  have B4 : Below w.heap.size w ((w3.alloc (.cells #[.int .i64 0, .int .i64 0, .slice none 0 0] 32)).alloc (.cells #[.int .i64 4, .int .i64 3, .int .i64 (a : Int)] 34)) := (B3.alloc B3.size _).alloc (by have := B3.size; simp; omega) _
  have T4 : True := trivial
  go_wp2_with fail
  generalize (w3.alloc (.cells #[.int .i64 0, .int .i64 0, .slice none 0 0] 32)).alloc (.cells #[.int .i64 4, .int .i64 3, .int .i64 (a : Int)] 34) = w4 at I4 F4 L4 G4 B4 T4 ⊢
  generalize w3.heap.size + 1 = qf at F4 ⊢
  generalize w3.heap.size = qm at I4 ⊢
  clear l3 g3 B3
  obtain ⟨c0, c1, c2, z0, z1, z2, fl⟩ := FB.all F4
  obtain ⟨e0, e1, e2, v0, v1, v2, il⟩ := IB.all I4
  obtain ⟨k0, k1, k2, k3⟩ := GB.all G4
  go_quiet ((first | (go_at_call 26; exact Calls.quiet_of_same ((peak_at (x := y) (g := g) (by first | exact L4 | exact Blk.drew L4 | exact Blk.drewN L4 _) HPK.out).mono fun _ _ ⟨h, k⟩ => ⟨h, k.symm⟩)) | (go_at_call 18; exact Calls.quiet_of_same ((steps_at27 (x := y) (g := g) (by first | exact L4 | exact Blk.drew L4 | exact Blk.drewN L4 _) HST.out).mono fun _ _ ⟨h, k⟩ => ⟨h, k.symm⟩))))
  all_goals clear k0 k1 k2 k3
  all_goals go_wp2_with (first
   | (go_at_call 17; refine (broken_at (x := y) (g := g) (by first | exact L4 | exact Blk.drew L4 | exact Blk.drewN L4 _) HRB.out).mono ?_; rintro e w6 ⟨rfl, rfl⟩)
   | (go_at_call 25; refine (bytes_at (x := y) (g := g) (by first | exact L4 | exact Blk.drew L4 | exact Blk.drewN L4 _) HB0.out).mono ?_; rintro e w7 ⟨rfl, rfl⟩)
   | (go_at_call 27; refine (same_bool (same_self 0 0 []) (bytesNone _) (bytesNone _)).mono ?_; rintro e w8 ⟨rfl, b8⟩)
   | (go_at_call 19; refine (awake15_any _).mono ?_; rintro e w9 ⟨rfl, b9⟩))
  all_goals go_ret
  all_goals exact ⟨rfl, below_next (below_next (by first | exact B4 | exact B4.drew | exact below_drewN B4 _) b8) b9⟩
 | bad k a hk0 hk4 ht hen =>
  subst hen
  have hkI : ¬ (k : Int) = 4 := by omega
  have hkI0 : ¬ (k : Int) = 0 := by omega
  have HT := Lib.hid ht
  clear hk0 hk4 ht
  have I4 : IB ((w3.alloc (.cells #[.int .i64 0, .int .i64 0, .slice none 0 0] 32)).alloc (.cells #[.int .i64 (k : Int), .int .i64 3, .int .i64 (a : Int)] 34)) w3.heap.size 0 0 none 0 0 := Blk.alloc (Blk.new _ _ _) _
  have F4 : FB ((w3.alloc (.cells #[.int .i64 0, .int .i64 0, .slice none 0 0] 32)).alloc (.cells #[.int .i64 (k : Int), .int .i64 3, .int .i64 (a : Int)] 34)) (w3.heap.size + 1) (k : Int) 3 (a : Int) := Blk.new_at _ _ _ (by simp)
  have L4 : LedAt ((w3.alloc (.cells #[.int .i64 0, .int .i64 0, .slice none 0 0] 32)).alloc (.cells #[.int .i64 (k : Int), .int .i64 3, .int .i64 (a : Int)] 34)) g y := Blk.alloc (Blk.alloc l3 _) _
  have G4 : GB ((w3.alloc (.cells #[.int .i64 0, .int .i64 0, .slice none 0 0] 32)).alloc (.cells #[.int .i64 (k : Int), .int .i64 3, .int .i64 (a : Int)] 34)) w.heap.size ba bb (bc) bd := Blk.alloc (Blk.alloc g3 _) _
  have B4 : Below w.heap.size w ((w3.alloc (.cells #[.int .i64 0, .int .i64 0, .slice none 0 0] 32)).alloc (.cells #[.int .i64 (k : Int), .int .i64 3, .int .i64 (a : Int)] 34)) := (B3.alloc B3.size _).alloc (by have := B3.size; simp; omega) _
  have T4 : True := trivial
  go_wp2_with fail
  generalize (w3.alloc (.cells #[.int .i64 0, .int .i64 0, .slice none 0 0] 32)).alloc (.cells #[.int .i64 (k : Int), .int .i64 3, .int .i64 (a : Int)] 34) = w4 at I4 F4 L4 G4 B4 T4 ⊢
  generalize w3.heap.size + 1 = qf at F4 ⊢
  generalize w3.heap.size = qm at I4 ⊢
  clear l3 g3 B3
  obtain ⟨c0, c1, c2, z0, z1, z2, fl⟩ := FB.all F4
  obtain ⟨e0, e1, e2, v0, v1, v2, il⟩ := IB.all I4
  obtain ⟨k0, k1, k2, k3⟩ := GB.all G4
  go_quiet ((first | (go_at_call 26; exact Calls.quiet_of_same ((peak_at (x := y) (g := g) (by first | exact L4 | exact Blk.drew L4 | exact Blk.drewN L4 _) HPK.out).mono fun _ _ ⟨h, k⟩ => ⟨h, k.symm⟩)) | (go_at_call 18; exact Calls.quiet_of_same ((steps_at27 (x := y) (g := g) (by first | exact L4 | exact Blk.drew L4 | exact Blk.drewN L4 _) HST.out).mono fun _ _ ⟨h, k⟩ => ⟨h, k.symm⟩))))
  all_goals clear k0 k1 k2 k3
  all_goals go_wp2_with (first
   | (go_at_call 22; refine (wide15 _).mono ?_; rintro e w6 ⟨rfl, b6⟩)
   | (go_at_call 21; refine (HN.out _).mono ?_; rintro e w7 ⟨g7, y7, l7, hy7, b7, hor⟩; obtain ⟨k', a', _, hr, rfl⟩ : ∃ k' a' : Nat, k' ≠ 0 ∧ DRes.bad k a = .bad k' a' ∧ e = .returned (.tuple #[.agg #[.int .i64 0, .int .i64 0, .slice none 0 0], .agg #[.int .i64 (k' : Int), .int .i64 3, .int .i64 (a' : Int)], .pointer (some ⟨g7, 0, none⟩)]) := (by rw [HT.out] at hor; exact hor.elim id (fun ⟨_, _, _, _, h, _⟩ => by cases h)); obtain ⟨rfl, rfl⟩ := DRes.bad_inj hr; have F7 : FB w7 qf (k : Int) 3 (a : Int) := FB.below (FB.below (by first | exact F4 | exact Blk.drew F4 | exact Blk.drewN F4 _) b6) b7; have I6 : IB w6 qm 0 0 none 0 0 := Blk.below (by first | exact I4 | exact Blk.drew I4 | exact Blk.drewN I4 _) b6 (Blk.lt I4); have I7 : IB w7 qm 0 0 none 0 0 := Blk.below I6 b7 (Blk.lt I6); clear c0 c1 c2 z0 z1 z2 fl e0 e1 e2 v0 v1 v2 il; obtain ⟨c0, c1, c2, z0, z1, z2, fl⟩ := FB.all F7; obtain ⟨e0, e1, e2, v0, v1, v2, il⟩ := IB.all I7)
   | (go_at_call 12; refine (refSame_bool (same_self 0 0 []) (bytesNone _) (bytesNone _)).mono ?_; rintro e w8 ⟨rfl, b8⟩; have F8 : FB w8 qf (k : Int) 3 (a : Int) := FB.below (Blk.alloc (Blk.alloc F7 _) _) b8; clear c0 c1 c2 z0 z1 z2 fl; obtain ⟨c0, c1, c2, z0, z1, z2, fl⟩ := FB.all F8)
   | (go_at_call 19; refine (awake15_any _).mono ?_; rintro e w9 ⟨rfl, b9⟩))
  all_goals go_ret
  all_goals
   have B7 := below_next (below_next (by first | exact B4 | exact B4.drew | exact below_drewN B4 _) b6) b7
   have B7' := B7.alloc B7.size (.cells #[.int .i64 0, .int .i64 0, .slice none 0 0] 32)
   have B8 := below_next (B7'.alloc B7'.size (.cells #[.int .i64 (k : Int), .int .i64 3, .int .i64 (a : Int)] 34)) b8
   exact ⟨rfl, below_next B8 b9⟩
 | img W' H' l cc ht hen hbt =>
  subst hen
  obtain ⟨hWb, hHb⟩ := HIMG.out _ _ _ _ _ _ _ rfl
  have HT := Lib.hid ht
  obtain ⟨ln, hln⟩ : ∃ ln, l.length = ln := ⟨_, rfl⟩
  rw [hln] at hbt ⊢
  have HLN := Lib.hid hln
  clear ht hln
  have I4 : IB ((w3.alloc (.cells #[.int .i64 (W' : Int), .int .i64 (H' : Int), .slice (some ⟨cc, 0, none⟩) ln ln] 32)).alloc (.cells #[.int .i64 0, .int .i64 0, .int .i64 0] 34)) w3.heap.size (W' : Int) (H' : Int) (some ⟨cc, 0, none⟩) ln ln := Blk.alloc (Blk.new _ _ _) _
  have F4 : FB ((w3.alloc (.cells #[.int .i64 (W' : Int), .int .i64 (H' : Int), .slice (some ⟨cc, 0, none⟩) ln ln] 32)).alloc (.cells #[.int .i64 0, .int .i64 0, .int .i64 0] 34)) (w3.heap.size + 1) 0 0 0 := Blk.new_at _ _ _ (by simp)
  have L4 : LedAt ((w3.alloc (.cells #[.int .i64 (W' : Int), .int .i64 (H' : Int), .slice (some ⟨cc, 0, none⟩) ln ln] 32)).alloc (.cells #[.int .i64 0, .int .i64 0, .int .i64 0] 34)) g y := Blk.alloc (Blk.alloc l3 _) _
  have G4 : GB ((w3.alloc (.cells #[.int .i64 (W' : Int), .int .i64 (H' : Int), .slice (some ⟨cc, 0, none⟩) ln ln] 32)).alloc (.cells #[.int .i64 0, .int .i64 0, .int .i64 0] 34)) w.heap.size ba bb (bc) bd := Blk.alloc (Blk.alloc g3 _) _
  have B4 : Below w.heap.size w ((w3.alloc (.cells #[.int .i64 (W' : Int), .int .i64 (H' : Int), .slice (some ⟨cc, 0, none⟩) ln ln] 32)).alloc (.cells #[.int .i64 0, .int .i64 0, .int .i64 0] 34)) := (B3.alloc B3.size _).alloc (by have := B3.size; simp; omega) _
  have T4 : BytesAt ((w3.alloc (.cells #[.int .i64 (W' : Int), .int .i64 (H' : Int), .slice (some ⟨cc, 0, none⟩) ln ln] 32)).alloc (.cells #[.int .i64 0, .int .i64 0, .int .i64 0] 34)) (some ⟨cc, 0, none⟩) ln l := (hbt.alloc _).alloc _
  go_wp2_with fail
  generalize (w3.alloc (.cells #[.int .i64 (W' : Int), .int .i64 (H' : Int), .slice (some ⟨cc, 0, none⟩) ln ln] 32)).alloc (.cells #[.int .i64 0, .int .i64 0, .int .i64 0] 34) = w4 at I4 F4 L4 G4 B4 T4 ⊢
  generalize w3.heap.size + 1 = qf at F4 ⊢
  generalize w3.heap.size = qm at I4 ⊢
  clear l3 g3 B3
  obtain ⟨c0, c1, c2, z0, z1, z2, fl⟩ := FB.all F4
  obtain ⟨e0, e1, e2, v0, v1, v2, il⟩ := IB.all I4
  obtain ⟨k0, k1, k2, k3⟩ := GB.all G4
  go_quiet ((first | (go_at_call 26; exact Calls.quiet_of_same ((peak_at (x := y) (g := g) (by first | exact L4 | exact Blk.drew L4 | exact Blk.drewN L4 _) HPK.out).mono fun _ _ ⟨h, k⟩ => ⟨h, k.symm⟩)) | (go_at_call 18; exact Calls.quiet_of_same ((steps_at27 (x := y) (g := g) (by first | exact L4 | exact Blk.drew L4 | exact Blk.drewN L4 _) HST.out).mono fun _ _ ⟨h, k⟩ => ⟨h, k.symm⟩))))
  all_goals clear k0 k1 k2 k3
  all_goals go_wp2_with (first
   | (go_at_call 22; refine (wide15 _).mono ?_; rintro e w6 ⟨rfl, b6⟩)
   | (go_at_call 21; refine (HN.out _).mono ?_; rintro e w7 ⟨g7, y7, l7, hy7, b7, hor⟩; rw [HT.out] at hor; obtain ⟨W2, H2, m2, d2, hr, rfl, hbt7⟩ := hor.elim (fun ⟨_, _, _, h, _⟩ => by cases h) id; injection hr with hr1 hr2 hr3; subst hr1 hr2 hr3; rw [HLN.out] at hbt7 ⊢; have F7 : FB w7 qf 0 0 0 := FB.below (FB.below (by first | exact F4 | exact Blk.drew F4 | exact Blk.drewN F4 _) b6) b7; have I6 : IB w6 qm (W' : Int) (H' : Int) (some ⟨cc, 0, none⟩) ln ln := Blk.below (by first | exact I4 | exact Blk.drew I4 | exact Blk.drewN I4 _) b6 (Blk.lt I4); have I7 : IB w7 qm (W' : Int) (H' : Int) (some ⟨cc, 0, none⟩) ln ln := Blk.below I6 b7 (Blk.lt I6); have T6 : BytesAt w6 (some ⟨cc, 0, none⟩) ln l := BytesAt.below (by first | exact T4 | exact (show BytesAt w4.drew _ _ _ from T4) | exact (show BytesAt (w4.drewN _) _ _ _ from T4)) b6; have T7 := T6.below b7; have U1 := (T7.alloc (.cells #[.int .i64 (W' : Int), .int .i64 (H' : Int), .slice (some ⟨d2, 0, none⟩) ln ln] 32)).alloc (.cells #[.int .i64 0, .int .i64 0, .int .i64 0] 34); have U2 := (hbt7.alloc (.cells #[.int .i64 (W' : Int), .int .i64 (H' : Int), .slice (some ⟨d2, 0, none⟩) ln ln] 32)).alloc (.cells #[.int .i64 0, .int .i64 0, .int .i64 0] 34); clear c0 c1 c2 z0 z1 z2 fl e0 e1 e2 v0 v1 v2 il; obtain ⟨c0, c1, c2, z0, z1, z2, fl⟩ := FB.all F7; obtain ⟨e0, e1, e2, v0, v1, v2, il⟩ := IB.all I7)
   | (go_at_call 12; refine (refSame_bool (same_self _ _ _) U1 U2).mono ?_; rintro e w8 ⟨rfl, b8⟩; have G6 : GB w6 w.heap.size ba bb (bc) bd := Blk.below (by first | exact G4 | exact Blk.drew G4 | exact Blk.drewN G4 _) b6 (Blk.lt G4); have G7 : GB w7 w.heap.size ba bb (bc) bd := Blk.below G6 b7 (Blk.lt G6); have G8 : GB w8 w.heap.size ba bb (bc) bd := Blk.below (Blk.alloc (Blk.alloc G7 _) _) b8 (Blk.lt (Blk.alloc (Blk.alloc G7 _) _)); have I8 : IB w8 qm (W' : Int) (H' : Int) (some ⟨cc, 0, none⟩) ln ln := Blk.below (Blk.alloc (Blk.alloc I7 _) _) b8 (Blk.lt (Blk.alloc (Blk.alloc I7 _) _)); have F8 : FB w8 qf 0 0 0 := FB.below (Blk.alloc (Blk.alloc F7 _) _) b8; clear c0 c1 c2 z0 z1 z2 fl e0 e1 e2 v0 v1 v2 il; obtain ⟨c0, c1, c2, z0, z1, z2, fl⟩ := FB.all F8; obtain ⟨e0, e1, e2, v0, v1, v2, il⟩ := IB.all I8; obtain ⟨k0, k1, k2, k3⟩ := GB.all G8)
   | (go_at_call 19; refine (awake15_any _).mono ?_; rintro e w9 ⟨rfl, b9⟩))
  all_goals go_ret
  all_goals
   have B7 := below_next (below_next (by first | exact B4 | exact B4.drew | exact below_drewN B4 _) b6) b7
   have B7' := B7.alloc B7.size (.cells #[.int .i64 (W' : Int), .int .i64 (H' : Int), .slice (some ⟨d2, 0, none⟩) ln ln] 32)
   have B8 := below_next (B7'.alloc B7'.size (.cells #[.int .i64 0, .int .i64 0, .int .i64 0] 34)) b8
   exact ⟨rfl, below_next B8 b9⟩
set_option maxRecDepth 100000 in
set_option maxHeartbeats 40000000 in
theorem pnmBudgets_mp {s : ByteArray} {ba bb bc bd : Int} {W H : Nat} (hs : s.size ≤ 600) (hp : fits ba ∧ fits bb ∧ fits bc ∧ fits bd) (hc : bc ≤ 262144 ∧ ¬ bc < 0) (hd : ¬ bd < 0) (u : pnmSides s = (W, H)) (hW : W ≤ 100) (hH : H ≤ 100) (w : World) :
  Calls Tryz.prog 7 #[.string s, .agg #[.int .i64 ba, .int .i64 bb, .int .i64 bc, .int .i64 bd]] w fun e w' => e = .returned (.bool true) ∧ Below w.heap.size w w' := by
 have hsI : ¬ (600 : Int) < (s.size : Int) := by omega
 have hWI : ¬ (100 : Int) < (W : Int) := by omega
 have hHI : ¬ (100 : Int) < (H : Int) := by omega
 have hsm : s.size ≤ 1099511627776 := by omega
 have HR0 := fun w => refPnmSides hsm w
 rw [u] at HR0
 have HR := Lib.hid HR0
 have HG := Lib.hid (fun w => pnmRunG (s := s) (ba := ba) (bb := bb) (bc := bc) (bd := bd) hsm hp.1.2 hp.2.1.2 (by have := hp.2.2.1.2; omega) hp.2.2.2.2 w)
 have HN := Lib.hid (fun w => pnmRunW hs (by rw [u]; exact hW) (by rw [u]; exact hH) w)
 obtain ⟨hc1, hc2⟩ := hc
 clear HR0 u hp hW hH hs hsm
 go_enter Tryz.func7, Tryz.ntmps7
 go_wp2_with (first
  | (go_at_call 20; refine (HR.out _).mono ?_; rintro e w1 ⟨rfl, b1⟩; have g1 : GB w1 w.heap.size ba bb (bc) bd := Blk.below (Blk.new _ _ _) b1 (by simp); obtain ⟨k0, k1, k2, k3⟩ := GB.all g1; have hl1 := Blk.lt g1; have B1 : Below w.heap.size w w1 := below_next ((Below.refl _ _).alloc (Nat.le_refl _) _) b1))
 refine (HG.out _).mono ?_
 rintro e w3 ⟨g, y, l3, yok, yB, yS, b3, himg, hany⟩
 have hP : ¬ (bc : Int) < y.peak := by have := yok.p1; rw [yB, nought_max] at this; omega
 have hS : ¬ (bd : Int) < y.steps := by have := yok.t1; rw [yS, nought_max] at this; omega
 obtain ⟨pk, hpk⟩ : ∃ pk, y.peak = pk := ⟨_, rfl⟩
 obtain ⟨st, hst⟩ : ∃ st, y.steps = st := ⟨_, rfl⟩
 rw [hpk] at hP
 rw [hst] at hS
 have hPd := decide_eq_false hP
 have hSd := decide_eq_false hS
 have HPK := Lib.hid hpk
 have HST := Lib.hid hst
 have B3 := below_next B1 b3
 have g3 : GB w3 w.heap.size ba bb (bc) bd := Blk.below g1 b3 hl1
 clear hpk hst yB yS yok b1 b3 B1 g1 k0 k1 k2 k3 hl1
 have HIMG := Lib.hid himg
 clear himg
 cases hany with
 | spent a ha hr hb0 hen =>
  subst hen
  have haI : (a : Int) ≤ (s.size : Int) := by omega
  have ha0 : (0 : Int) ≤ (a : Int) := by omega
  have HRB : Hid (decide (y.reason ≠ 0) = true) := Lib.hid (decide_eq_true hr)
  have HB0 := Lib.hid hb0
  clear ha hr hb0
  have I4 : IB ((w3.alloc (.cells #[.int .i64 0, .int .i64 0, .slice none 0 0] 32)).alloc (.cells #[.int .i64 4, .int .i64 3, .int .i64 (a : Int)] 34)) w3.heap.size 0 0 none 0 0 := Blk.alloc (Blk.new _ _ _) _
  have F4 : FB ((w3.alloc (.cells #[.int .i64 0, .int .i64 0, .slice none 0 0] 32)).alloc (.cells #[.int .i64 4, .int .i64 3, .int .i64 (a : Int)] 34)) (w3.heap.size + 1) 4 3 (a : Int) := Blk.new_at _ _ _ (by simp)
  have L4 : LedAt ((w3.alloc (.cells #[.int .i64 0, .int .i64 0, .slice none 0 0] 32)).alloc (.cells #[.int .i64 4, .int .i64 3, .int .i64 (a : Int)] 34)) g y := Blk.alloc (Blk.alloc l3 _) _
  have G4 : GB ((w3.alloc (.cells #[.int .i64 0, .int .i64 0, .slice none 0 0] 32)).alloc (.cells #[.int .i64 4, .int .i64 3, .int .i64 (a : Int)] 34)) w.heap.size ba bb (bc) bd := Blk.alloc (Blk.alloc g3 _) _
  have B4 : Below w.heap.size w ((w3.alloc (.cells #[.int .i64 0, .int .i64 0, .slice none 0 0] 32)).alloc (.cells #[.int .i64 4, .int .i64 3, .int .i64 (a : Int)] 34)) := (B3.alloc B3.size _).alloc (by have := B3.size; simp; omega) _
  have T4 : True := trivial
  go_wp2_with fail
  generalize (w3.alloc (.cells #[.int .i64 0, .int .i64 0, .slice none 0 0] 32)).alloc (.cells #[.int .i64 4, .int .i64 3, .int .i64 (a : Int)] 34) = w4 at I4 F4 L4 G4 B4 T4 ⊢
  generalize w3.heap.size + 1 = qf at F4 ⊢
  generalize w3.heap.size = qm at I4 ⊢
  clear l3 g3 B3
  obtain ⟨c0, c1, c2, z0, z1, z2, fl⟩ := FB.all F4
  obtain ⟨e0, e1, e2, v0, v1, v2, il⟩ := IB.all I4
  obtain ⟨k0, k1, k2, k3⟩ := GB.all G4
  go_quiet ((first | (go_at_call 26; exact Calls.quiet_of_same ((peak_at (x := y) (g := g) (by first | exact L4 | exact Blk.drew L4 | exact Blk.drewN L4 _) HPK.out).mono fun _ _ ⟨h, k⟩ => ⟨h, k.symm⟩)) | (go_at_call 18; exact Calls.quiet_of_same ((steps_at27 (x := y) (g := g) (by first | exact L4 | exact Blk.drew L4 | exact Blk.drewN L4 _) HST.out).mono fun _ _ ⟨h, k⟩ => ⟨h, k.symm⟩))))
  all_goals clear k0 k1 k2 k3
  all_goals go_wp2_with (first
   | (go_at_call 17; refine (broken_at (x := y) (g := g) (by first | exact L4 | exact Blk.drew L4 | exact Blk.drewN L4 _) HRB.out).mono ?_; rintro e w6 ⟨rfl, rfl⟩)
   | (go_at_call 25; refine (bytes_at (x := y) (g := g) (by first | exact L4 | exact Blk.drew L4 | exact Blk.drewN L4 _) HB0.out).mono ?_; rintro e w7 ⟨rfl, rfl⟩)
   | (go_at_call 27; refine (same_bool (same_self 0 0 []) (bytesNone _) (bytesNone _)).mono ?_; rintro e w8 ⟨rfl, b8⟩)
   | (go_at_call 19; refine (awake15_any _).mono ?_; rintro e w9 ⟨rfl, b9⟩))
  all_goals go_ret
  all_goals exact ⟨rfl, below_next (below_next (by first | exact B4 | exact B4.drew | exact below_drewN B4 _) b8) b9⟩
 | bad k a hk0 hk4 ht hen =>
  subst hen
  have hkI : ¬ (k : Int) = 4 := by omega
  have hkI0 : ¬ (k : Int) = 0 := by omega
  have HT := Lib.hid ht
  clear hk0 hk4 ht
  have I4 : IB ((w3.alloc (.cells #[.int .i64 0, .int .i64 0, .slice none 0 0] 32)).alloc (.cells #[.int .i64 (k : Int), .int .i64 3, .int .i64 (a : Int)] 34)) w3.heap.size 0 0 none 0 0 := Blk.alloc (Blk.new _ _ _) _
  have F4 : FB ((w3.alloc (.cells #[.int .i64 0, .int .i64 0, .slice none 0 0] 32)).alloc (.cells #[.int .i64 (k : Int), .int .i64 3, .int .i64 (a : Int)] 34)) (w3.heap.size + 1) (k : Int) 3 (a : Int) := Blk.new_at _ _ _ (by simp)
  have L4 : LedAt ((w3.alloc (.cells #[.int .i64 0, .int .i64 0, .slice none 0 0] 32)).alloc (.cells #[.int .i64 (k : Int), .int .i64 3, .int .i64 (a : Int)] 34)) g y := Blk.alloc (Blk.alloc l3 _) _
  have G4 : GB ((w3.alloc (.cells #[.int .i64 0, .int .i64 0, .slice none 0 0] 32)).alloc (.cells #[.int .i64 (k : Int), .int .i64 3, .int .i64 (a : Int)] 34)) w.heap.size ba bb (bc) bd := Blk.alloc (Blk.alloc g3 _) _
  have B4 : Below w.heap.size w ((w3.alloc (.cells #[.int .i64 0, .int .i64 0, .slice none 0 0] 32)).alloc (.cells #[.int .i64 (k : Int), .int .i64 3, .int .i64 (a : Int)] 34)) := (B3.alloc B3.size _).alloc (by have := B3.size; simp; omega) _
  have T4 : True := trivial
  go_wp2_with fail
  generalize (w3.alloc (.cells #[.int .i64 0, .int .i64 0, .slice none 0 0] 32)).alloc (.cells #[.int .i64 (k : Int), .int .i64 3, .int .i64 (a : Int)] 34) = w4 at I4 F4 L4 G4 B4 T4 ⊢
  generalize w3.heap.size + 1 = qf at F4 ⊢
  generalize w3.heap.size = qm at I4 ⊢
  clear l3 g3 B3
  obtain ⟨c0, c1, c2, z0, z1, z2, fl⟩ := FB.all F4
  obtain ⟨e0, e1, e2, v0, v1, v2, il⟩ := IB.all I4
  obtain ⟨k0, k1, k2, k3⟩ := GB.all G4
  go_quiet ((first | (go_at_call 26; exact Calls.quiet_of_same ((peak_at (x := y) (g := g) (by first | exact L4 | exact Blk.drew L4 | exact Blk.drewN L4 _) HPK.out).mono fun _ _ ⟨h, k⟩ => ⟨h, k.symm⟩)) | (go_at_call 18; exact Calls.quiet_of_same ((steps_at27 (x := y) (g := g) (by first | exact L4 | exact Blk.drew L4 | exact Blk.drewN L4 _) HST.out).mono fun _ _ ⟨h, k⟩ => ⟨h, k.symm⟩))))
  all_goals clear k0 k1 k2 k3
  all_goals go_wp2_with (first
   | (go_at_call 22; refine (wide15 _).mono ?_; rintro e w6 ⟨rfl, b6⟩)
   | (go_at_call 21; refine (HN.out _).mono ?_; rintro e w7 ⟨g7, y7, l7, hy7, b7, hor⟩; obtain ⟨k', a', _, hr, rfl⟩ : ∃ k' a' : Nat, k' ≠ 0 ∧ DRes.bad k a = .bad k' a' ∧ e = .returned (.tuple #[.agg #[.int .i64 0, .int .i64 0, .slice none 0 0], .agg #[.int .i64 (k' : Int), .int .i64 3, .int .i64 (a' : Int)], .pointer (some ⟨g7, 0, none⟩)]) := (by rw [HT.out] at hor; exact hor.elim id (fun ⟨_, _, _, _, h, _⟩ => by cases h)); obtain ⟨rfl, rfl⟩ := DRes.bad_inj hr; have F7 : FB w7 qf (k : Int) 3 (a : Int) := FB.below (FB.below (by first | exact F4 | exact Blk.drew F4 | exact Blk.drewN F4 _) b6) b7; have I6 : IB w6 qm 0 0 none 0 0 := Blk.below (by first | exact I4 | exact Blk.drew I4 | exact Blk.drewN I4 _) b6 (Blk.lt I4); have I7 : IB w7 qm 0 0 none 0 0 := Blk.below I6 b7 (Blk.lt I6); clear c0 c1 c2 z0 z1 z2 fl e0 e1 e2 v0 v1 v2 il; obtain ⟨c0, c1, c2, z0, z1, z2, fl⟩ := FB.all F7; obtain ⟨e0, e1, e2, v0, v1, v2, il⟩ := IB.all I7)
   | (go_at_call 12; refine (refSame_bool (same_self 0 0 []) (bytesNone _) (bytesNone _)).mono ?_; rintro e w8 ⟨rfl, b8⟩; have F8 : FB w8 qf (k : Int) 3 (a : Int) := FB.below (Blk.alloc (Blk.alloc F7 _) _) b8; clear c0 c1 c2 z0 z1 z2 fl; obtain ⟨c0, c1, c2, z0, z1, z2, fl⟩ := FB.all F8)
   | (go_at_call 19; refine (awake15_any _).mono ?_; rintro e w9 ⟨rfl, b9⟩))
  all_goals go_ret
  all_goals
   have B7 := below_next (below_next (by first | exact B4 | exact B4.drew | exact below_drewN B4 _) b6) b7
   have B7' := B7.alloc B7.size (.cells #[.int .i64 0, .int .i64 0, .slice none 0 0] 32)
   have B8 := below_next (B7'.alloc B7'.size (.cells #[.int .i64 (k : Int), .int .i64 3, .int .i64 (a : Int)] 34)) b8
   exact ⟨rfl, below_next B8 b9⟩
 | img W' H' l cc ht hen hbt =>
  subst hen
  obtain ⟨hWb, hHb⟩ := HIMG.out _ _ _ _ _ _ _ rfl
  have HT := Lib.hid ht
  obtain ⟨ln, hln⟩ : ∃ ln, l.length = ln := ⟨_, rfl⟩
  rw [hln] at hbt ⊢
  have HLN := Lib.hid hln
  clear ht hln
  have I4 : IB ((w3.alloc (.cells #[.int .i64 (W' : Int), .int .i64 (H' : Int), .slice (some ⟨cc, 0, none⟩) ln ln] 32)).alloc (.cells #[.int .i64 0, .int .i64 0, .int .i64 0] 34)) w3.heap.size (W' : Int) (H' : Int) (some ⟨cc, 0, none⟩) ln ln := Blk.alloc (Blk.new _ _ _) _
  have F4 : FB ((w3.alloc (.cells #[.int .i64 (W' : Int), .int .i64 (H' : Int), .slice (some ⟨cc, 0, none⟩) ln ln] 32)).alloc (.cells #[.int .i64 0, .int .i64 0, .int .i64 0] 34)) (w3.heap.size + 1) 0 0 0 := Blk.new_at _ _ _ (by simp)
  have L4 : LedAt ((w3.alloc (.cells #[.int .i64 (W' : Int), .int .i64 (H' : Int), .slice (some ⟨cc, 0, none⟩) ln ln] 32)).alloc (.cells #[.int .i64 0, .int .i64 0, .int .i64 0] 34)) g y := Blk.alloc (Blk.alloc l3 _) _
  have G4 : GB ((w3.alloc (.cells #[.int .i64 (W' : Int), .int .i64 (H' : Int), .slice (some ⟨cc, 0, none⟩) ln ln] 32)).alloc (.cells #[.int .i64 0, .int .i64 0, .int .i64 0] 34)) w.heap.size ba bb (bc) bd := Blk.alloc (Blk.alloc g3 _) _
  have B4 : Below w.heap.size w ((w3.alloc (.cells #[.int .i64 (W' : Int), .int .i64 (H' : Int), .slice (some ⟨cc, 0, none⟩) ln ln] 32)).alloc (.cells #[.int .i64 0, .int .i64 0, .int .i64 0] 34)) := (B3.alloc B3.size _).alloc (by have := B3.size; simp; omega) _
  have T4 : BytesAt ((w3.alloc (.cells #[.int .i64 (W' : Int), .int .i64 (H' : Int), .slice (some ⟨cc, 0, none⟩) ln ln] 32)).alloc (.cells #[.int .i64 0, .int .i64 0, .int .i64 0] 34)) (some ⟨cc, 0, none⟩) ln l := (hbt.alloc _).alloc _
  go_wp2_with fail
  generalize (w3.alloc (.cells #[.int .i64 (W' : Int), .int .i64 (H' : Int), .slice (some ⟨cc, 0, none⟩) ln ln] 32)).alloc (.cells #[.int .i64 0, .int .i64 0, .int .i64 0] 34) = w4 at I4 F4 L4 G4 B4 T4 ⊢
  generalize w3.heap.size + 1 = qf at F4 ⊢
  generalize w3.heap.size = qm at I4 ⊢
  clear l3 g3 B3
  obtain ⟨c0, c1, c2, z0, z1, z2, fl⟩ := FB.all F4
  obtain ⟨e0, e1, e2, v0, v1, v2, il⟩ := IB.all I4
  obtain ⟨k0, k1, k2, k3⟩ := GB.all G4
  go_quiet ((first | (go_at_call 26; exact Calls.quiet_of_same ((peak_at (x := y) (g := g) (by first | exact L4 | exact Blk.drew L4 | exact Blk.drewN L4 _) HPK.out).mono fun _ _ ⟨h, k⟩ => ⟨h, k.symm⟩)) | (go_at_call 18; exact Calls.quiet_of_same ((steps_at27 (x := y) (g := g) (by first | exact L4 | exact Blk.drew L4 | exact Blk.drewN L4 _) HST.out).mono fun _ _ ⟨h, k⟩ => ⟨h, k.symm⟩))))
  all_goals clear k0 k1 k2 k3
  all_goals go_wp2_with (first
   | (go_at_call 22; refine (wide15 _).mono ?_; rintro e w6 ⟨rfl, b6⟩)
   | (go_at_call 21; refine (HN.out _).mono ?_; rintro e w7 ⟨g7, y7, l7, hy7, b7, hor⟩; rw [HT.out] at hor; obtain ⟨W2, H2, m2, d2, hr, rfl, hbt7⟩ := hor.elim (fun ⟨_, _, _, h, _⟩ => by cases h) id; injection hr with hr1 hr2 hr3; subst hr1 hr2 hr3; rw [HLN.out] at hbt7 ⊢; have F7 : FB w7 qf 0 0 0 := FB.below (FB.below (by first | exact F4 | exact Blk.drew F4 | exact Blk.drewN F4 _) b6) b7; have I6 : IB w6 qm (W' : Int) (H' : Int) (some ⟨cc, 0, none⟩) ln ln := Blk.below (by first | exact I4 | exact Blk.drew I4 | exact Blk.drewN I4 _) b6 (Blk.lt I4); have I7 : IB w7 qm (W' : Int) (H' : Int) (some ⟨cc, 0, none⟩) ln ln := Blk.below I6 b7 (Blk.lt I6); have T6 : BytesAt w6 (some ⟨cc, 0, none⟩) ln l := BytesAt.below (by first | exact T4 | exact (show BytesAt w4.drew _ _ _ from T4) | exact (show BytesAt (w4.drewN _) _ _ _ from T4)) b6; have T7 := T6.below b7; have U1 := (T7.alloc (.cells #[.int .i64 (W' : Int), .int .i64 (H' : Int), .slice (some ⟨d2, 0, none⟩) ln ln] 32)).alloc (.cells #[.int .i64 0, .int .i64 0, .int .i64 0] 34); have U2 := (hbt7.alloc (.cells #[.int .i64 (W' : Int), .int .i64 (H' : Int), .slice (some ⟨d2, 0, none⟩) ln ln] 32)).alloc (.cells #[.int .i64 0, .int .i64 0, .int .i64 0] 34); clear c0 c1 c2 z0 z1 z2 fl e0 e1 e2 v0 v1 v2 il; obtain ⟨c0, c1, c2, z0, z1, z2, fl⟩ := FB.all F7; obtain ⟨e0, e1, e2, v0, v1, v2, il⟩ := IB.all I7)
   | (go_at_call 12; refine (refSame_bool (same_self _ _ _) U1 U2).mono ?_; rintro e w8 ⟨rfl, b8⟩; have G6 : GB w6 w.heap.size ba bb (bc) bd := Blk.below (by first | exact G4 | exact Blk.drew G4 | exact Blk.drewN G4 _) b6 (Blk.lt G4); have G7 : GB w7 w.heap.size ba bb (bc) bd := Blk.below G6 b7 (Blk.lt G6); have G8 : GB w8 w.heap.size ba bb (bc) bd := Blk.below (Blk.alloc (Blk.alloc G7 _) _) b8 (Blk.lt (Blk.alloc (Blk.alloc G7 _) _)); have I8 : IB w8 qm (W' : Int) (H' : Int) (some ⟨cc, 0, none⟩) ln ln := Blk.below (Blk.alloc (Blk.alloc I7 _) _) b8 (Blk.lt (Blk.alloc (Blk.alloc I7 _) _)); have F8 : FB w8 qf 0 0 0 := FB.below (Blk.alloc (Blk.alloc F7 _) _) b8; clear c0 c1 c2 z0 z1 z2 fl e0 e1 e2 v0 v1 v2 il; obtain ⟨c0, c1, c2, z0, z1, z2, fl⟩ := FB.all F8; obtain ⟨e0, e1, e2, v0, v1, v2, il⟩ := IB.all I8; obtain ⟨k0, k1, k2, k3⟩ := GB.all G8)
   | (go_at_call 19; refine (awake15_any _).mono ?_; rintro e w9 ⟨rfl, b9⟩))
  all_goals go_ret
  all_goals
   have B7 := below_next (below_next (by first | exact B4 | exact B4.drew | exact below_drewN B4 _) b6) b7
   have B7' := B7.alloc B7.size (.cells #[.int .i64 (W' : Int), .int .i64 (H' : Int), .slice (some ⟨d2, 0, none⟩) ln ln] 32)
   have B8 := below_next (B7'.alloc B7'.size (.cells #[.int .i64 0, .int .i64 0, .int .i64 0] 34)) b8
   exact ⟨rfl, below_next B8 b9⟩
set_option maxRecDepth 100000 in
set_option maxHeartbeats 40000000 in
theorem pnmBudgets_hn {s : ByteArray} {ba bb bc bd : Int} {W H : Nat} (hs : s.size ≤ 600) (hp : fits ba ∧ fits bb ∧ fits bc ∧ fits bd) (hc : ¬ bc ≤ 262144 ∧ ¬ bc < 0) (hd : bd < 0) (u : pnmSides s = (W, H)) (hW : W ≤ 100) (hH : H ≤ 100) (w : World) :
  Calls Tryz.prog 7 #[.string s, .agg #[.int .i64 ba, .int .i64 bb, .int .i64 bc, .int .i64 bd]] w fun e w' => e = .returned (.bool true) ∧ Below w.heap.size w w' := by
 have hsI : ¬ (600 : Int) < (s.size : Int) := by omega
 have hWI : ¬ (100 : Int) < (W : Int) := by omega
 have hHI : ¬ (100 : Int) < (H : Int) := by omega
 have hsm : s.size ≤ 1099511627776 := by omega
 have HR0 := fun w => refPnmSides hsm w
 rw [u] at HR0
 have HR := Lib.hid HR0
 have HG := Lib.hid (fun w => pnmRunG (s := s) (ba := ba) (bb := bb) (bc := 262144) (bd := bd) hsm hp.1.2 hp.2.1.2 (by have := hp.2.2.1.2; omega) hp.2.2.2.2 w)
 have HN := Lib.hid (fun w => pnmRunW hs (by rw [u]; exact hW) (by rw [u]; exact hH) w)
 obtain ⟨hc1, hc2⟩ := hc
 clear HR0 u hp hW hH hs hsm
 go_enter Tryz.func7, Tryz.ntmps7
 go_wp2_with (first
  | (go_at_call 20; refine (HR.out _).mono ?_; rintro e w1 ⟨rfl, b1⟩; have g1 : GB w1 w.heap.size ba bb (262144) bd := Blk.below (Blk.new _ _ _) b1 (by simp); obtain ⟨k0, k1, k2, k3⟩ := GB.all g1; have hl1 := Blk.lt g1; have B1 : Below w.heap.size w w1 := below_next ((Below.refl _ _).alloc (Nat.le_refl _) _) b1))
 refine (HG.out _).mono ?_
 rintro e w3 ⟨g, y, l3, yok, yB, yS, b3, himg, hany⟩
 have hP : ¬ (262144 : Int) < y.peak := by have := yok.p1; rw [yB, nought_max] at this; omega
 have hS : ¬ (0 : Int) < y.steps := by have := yok.t1; rw [yS, nought_max] at this; omega
 obtain ⟨pk, hpk⟩ : ∃ pk, y.peak = pk := ⟨_, rfl⟩
 obtain ⟨st, hst⟩ : ∃ st, y.steps = st := ⟨_, rfl⟩
 rw [hpk] at hP
 rw [hst] at hS
 have hPd := decide_eq_false hP
 have hSd := decide_eq_false hS
 have HPK := Lib.hid hpk
 have HST := Lib.hid hst
 have B3 := below_next B1 b3
 have g3 : GB w3 w.heap.size ba bb (262144) bd := Blk.below g1 b3 hl1
 clear hpk hst yB yS yok b1 b3 B1 g1 k0 k1 k2 k3 hl1
 have HIMG := Lib.hid himg
 clear himg
 cases hany with
 | spent a ha hr hb0 hen =>
  subst hen
  have haI : (a : Int) ≤ (s.size : Int) := by omega
  have ha0 : (0 : Int) ≤ (a : Int) := by omega
  have HRB : Hid (decide (y.reason ≠ 0) = true) := Lib.hid (decide_eq_true hr)
  have HB0 := Lib.hid hb0
  clear ha hr hb0
  have I4 : IB ((w3.alloc (.cells #[.int .i64 0, .int .i64 0, .slice none 0 0] 32)).alloc (.cells #[.int .i64 4, .int .i64 3, .int .i64 (a : Int)] 34)) w3.heap.size 0 0 none 0 0 := Blk.alloc (Blk.new _ _ _) _
  have F4 : FB ((w3.alloc (.cells #[.int .i64 0, .int .i64 0, .slice none 0 0] 32)).alloc (.cells #[.int .i64 4, .int .i64 3, .int .i64 (a : Int)] 34)) (w3.heap.size + 1) 4 3 (a : Int) := Blk.new_at _ _ _ (by simp)
  have L4 : LedAt ((w3.alloc (.cells #[.int .i64 0, .int .i64 0, .slice none 0 0] 32)).alloc (.cells #[.int .i64 4, .int .i64 3, .int .i64 (a : Int)] 34)) g y := Blk.alloc (Blk.alloc l3 _) _
  have G4 : GB ((w3.alloc (.cells #[.int .i64 0, .int .i64 0, .slice none 0 0] 32)).alloc (.cells #[.int .i64 4, .int .i64 3, .int .i64 (a : Int)] 34)) w.heap.size ba bb (262144) bd := Blk.alloc (Blk.alloc g3 _) _
  have B4 : Below w.heap.size w ((w3.alloc (.cells #[.int .i64 0, .int .i64 0, .slice none 0 0] 32)).alloc (.cells #[.int .i64 4, .int .i64 3, .int .i64 (a : Int)] 34)) := (B3.alloc B3.size _).alloc (by have := B3.size; simp; omega) _
  have T4 : True := trivial
  go_wp2_with fail
  generalize (w3.alloc (.cells #[.int .i64 0, .int .i64 0, .slice none 0 0] 32)).alloc (.cells #[.int .i64 4, .int .i64 3, .int .i64 (a : Int)] 34) = w4 at I4 F4 L4 G4 B4 T4 ⊢
  generalize w3.heap.size + 1 = qf at F4 ⊢
  generalize w3.heap.size = qm at I4 ⊢
  clear l3 g3 B3
  obtain ⟨c0, c1, c2, z0, z1, z2, fl⟩ := FB.all F4
  obtain ⟨e0, e1, e2, v0, v1, v2, il⟩ := IB.all I4
  obtain ⟨k0, k1, k2, k3⟩ := GB.all G4
  go_quiet ((first | (go_at_call 26; exact Calls.quiet_of_same ((peak_at (x := y) (g := g) (by first | exact L4 | exact Blk.drew L4 | exact Blk.drewN L4 _) HPK.out).mono fun _ _ ⟨h, k⟩ => ⟨h, k.symm⟩)) | (go_at_call 18; exact Calls.quiet_of_same ((steps_at27 (x := y) (g := g) (by first | exact L4 | exact Blk.drew L4 | exact Blk.drewN L4 _) HST.out).mono fun _ _ ⟨h, k⟩ => ⟨h, k.symm⟩))))
  all_goals clear k0 k1 k2 k3
  all_goals go_wp2_with (first
   | (go_at_call 17; refine (broken_at (x := y) (g := g) (by first | exact L4 | exact Blk.drew L4 | exact Blk.drewN L4 _) HRB.out).mono ?_; rintro e w6 ⟨rfl, rfl⟩)
   | (go_at_call 25; refine (bytes_at (x := y) (g := g) (by first | exact L4 | exact Blk.drew L4 | exact Blk.drewN L4 _) HB0.out).mono ?_; rintro e w7 ⟨rfl, rfl⟩)
   | (go_at_call 27; refine (same_bool (same_self 0 0 []) (bytesNone _) (bytesNone _)).mono ?_; rintro e w8 ⟨rfl, b8⟩)
   | (go_at_call 19; refine (awake15_any _).mono ?_; rintro e w9 ⟨rfl, b9⟩))
  all_goals go_ret
  all_goals exact ⟨rfl, below_next (below_next (by first | exact B4 | exact B4.drew | exact below_drewN B4 _) b8) b9⟩
 | bad k a hk0 hk4 ht hen =>
  subst hen
  have hkI : ¬ (k : Int) = 4 := by omega
  have hkI0 : ¬ (k : Int) = 0 := by omega
  have HT := Lib.hid ht
  clear hk0 hk4 ht
  have I4 : IB ((w3.alloc (.cells #[.int .i64 0, .int .i64 0, .slice none 0 0] 32)).alloc (.cells #[.int .i64 (k : Int), .int .i64 3, .int .i64 (a : Int)] 34)) w3.heap.size 0 0 none 0 0 := Blk.alloc (Blk.new _ _ _) _
  have F4 : FB ((w3.alloc (.cells #[.int .i64 0, .int .i64 0, .slice none 0 0] 32)).alloc (.cells #[.int .i64 (k : Int), .int .i64 3, .int .i64 (a : Int)] 34)) (w3.heap.size + 1) (k : Int) 3 (a : Int) := Blk.new_at _ _ _ (by simp)
  have L4 : LedAt ((w3.alloc (.cells #[.int .i64 0, .int .i64 0, .slice none 0 0] 32)).alloc (.cells #[.int .i64 (k : Int), .int .i64 3, .int .i64 (a : Int)] 34)) g y := Blk.alloc (Blk.alloc l3 _) _
  have G4 : GB ((w3.alloc (.cells #[.int .i64 0, .int .i64 0, .slice none 0 0] 32)).alloc (.cells #[.int .i64 (k : Int), .int .i64 3, .int .i64 (a : Int)] 34)) w.heap.size ba bb (262144) bd := Blk.alloc (Blk.alloc g3 _) _
  have B4 : Below w.heap.size w ((w3.alloc (.cells #[.int .i64 0, .int .i64 0, .slice none 0 0] 32)).alloc (.cells #[.int .i64 (k : Int), .int .i64 3, .int .i64 (a : Int)] 34)) := (B3.alloc B3.size _).alloc (by have := B3.size; simp; omega) _
  have T4 : True := trivial
  go_wp2_with fail
  generalize (w3.alloc (.cells #[.int .i64 0, .int .i64 0, .slice none 0 0] 32)).alloc (.cells #[.int .i64 (k : Int), .int .i64 3, .int .i64 (a : Int)] 34) = w4 at I4 F4 L4 G4 B4 T4 ⊢
  generalize w3.heap.size + 1 = qf at F4 ⊢
  generalize w3.heap.size = qm at I4 ⊢
  clear l3 g3 B3
  obtain ⟨c0, c1, c2, z0, z1, z2, fl⟩ := FB.all F4
  obtain ⟨e0, e1, e2, v0, v1, v2, il⟩ := IB.all I4
  obtain ⟨k0, k1, k2, k3⟩ := GB.all G4
  go_quiet ((first | (go_at_call 26; exact Calls.quiet_of_same ((peak_at (x := y) (g := g) (by first | exact L4 | exact Blk.drew L4 | exact Blk.drewN L4 _) HPK.out).mono fun _ _ ⟨h, k⟩ => ⟨h, k.symm⟩)) | (go_at_call 18; exact Calls.quiet_of_same ((steps_at27 (x := y) (g := g) (by first | exact L4 | exact Blk.drew L4 | exact Blk.drewN L4 _) HST.out).mono fun _ _ ⟨h, k⟩ => ⟨h, k.symm⟩))))
  all_goals clear k0 k1 k2 k3
  all_goals go_wp2_with (first
   | (go_at_call 22; refine (wide15 _).mono ?_; rintro e w6 ⟨rfl, b6⟩)
   | (go_at_call 21; refine (HN.out _).mono ?_; rintro e w7 ⟨g7, y7, l7, hy7, b7, hor⟩; obtain ⟨k', a', _, hr, rfl⟩ : ∃ k' a' : Nat, k' ≠ 0 ∧ DRes.bad k a = .bad k' a' ∧ e = .returned (.tuple #[.agg #[.int .i64 0, .int .i64 0, .slice none 0 0], .agg #[.int .i64 (k' : Int), .int .i64 3, .int .i64 (a' : Int)], .pointer (some ⟨g7, 0, none⟩)]) := (by rw [HT.out] at hor; exact hor.elim id (fun ⟨_, _, _, _, h, _⟩ => by cases h)); obtain ⟨rfl, rfl⟩ := DRes.bad_inj hr; have F7 : FB w7 qf (k : Int) 3 (a : Int) := FB.below (FB.below (by first | exact F4 | exact Blk.drew F4 | exact Blk.drewN F4 _) b6) b7; have I6 : IB w6 qm 0 0 none 0 0 := Blk.below (by first | exact I4 | exact Blk.drew I4 | exact Blk.drewN I4 _) b6 (Blk.lt I4); have I7 : IB w7 qm 0 0 none 0 0 := Blk.below I6 b7 (Blk.lt I6); clear c0 c1 c2 z0 z1 z2 fl e0 e1 e2 v0 v1 v2 il; obtain ⟨c0, c1, c2, z0, z1, z2, fl⟩ := FB.all F7; obtain ⟨e0, e1, e2, v0, v1, v2, il⟩ := IB.all I7)
   | (go_at_call 12; refine (refSame_bool (same_self 0 0 []) (bytesNone _) (bytesNone _)).mono ?_; rintro e w8 ⟨rfl, b8⟩; have F8 : FB w8 qf (k : Int) 3 (a : Int) := FB.below (Blk.alloc (Blk.alloc F7 _) _) b8; clear c0 c1 c2 z0 z1 z2 fl; obtain ⟨c0, c1, c2, z0, z1, z2, fl⟩ := FB.all F8)
   | (go_at_call 19; refine (awake15_any _).mono ?_; rintro e w9 ⟨rfl, b9⟩))
  all_goals go_ret
  all_goals
   have B7 := below_next (below_next (by first | exact B4 | exact B4.drew | exact below_drewN B4 _) b6) b7
   have B7' := B7.alloc B7.size (.cells #[.int .i64 0, .int .i64 0, .slice none 0 0] 32)
   have B8 := below_next (B7'.alloc B7'.size (.cells #[.int .i64 (k : Int), .int .i64 3, .int .i64 (a : Int)] 34)) b8
   exact ⟨rfl, below_next B8 b9⟩
 | img W' H' l cc ht hen hbt =>
  subst hen
  obtain ⟨hWb, hHb⟩ := HIMG.out _ _ _ _ _ _ _ rfl
  have HT := Lib.hid ht
  obtain ⟨ln, hln⟩ : ∃ ln, l.length = ln := ⟨_, rfl⟩
  rw [hln] at hbt ⊢
  have HLN := Lib.hid hln
  clear ht hln
  have I4 : IB ((w3.alloc (.cells #[.int .i64 (W' : Int), .int .i64 (H' : Int), .slice (some ⟨cc, 0, none⟩) ln ln] 32)).alloc (.cells #[.int .i64 0, .int .i64 0, .int .i64 0] 34)) w3.heap.size (W' : Int) (H' : Int) (some ⟨cc, 0, none⟩) ln ln := Blk.alloc (Blk.new _ _ _) _
  have F4 : FB ((w3.alloc (.cells #[.int .i64 (W' : Int), .int .i64 (H' : Int), .slice (some ⟨cc, 0, none⟩) ln ln] 32)).alloc (.cells #[.int .i64 0, .int .i64 0, .int .i64 0] 34)) (w3.heap.size + 1) 0 0 0 := Blk.new_at _ _ _ (by simp)
  have L4 : LedAt ((w3.alloc (.cells #[.int .i64 (W' : Int), .int .i64 (H' : Int), .slice (some ⟨cc, 0, none⟩) ln ln] 32)).alloc (.cells #[.int .i64 0, .int .i64 0, .int .i64 0] 34)) g y := Blk.alloc (Blk.alloc l3 _) _
  have G4 : GB ((w3.alloc (.cells #[.int .i64 (W' : Int), .int .i64 (H' : Int), .slice (some ⟨cc, 0, none⟩) ln ln] 32)).alloc (.cells #[.int .i64 0, .int .i64 0, .int .i64 0] 34)) w.heap.size ba bb (262144) bd := Blk.alloc (Blk.alloc g3 _) _
  have B4 : Below w.heap.size w ((w3.alloc (.cells #[.int .i64 (W' : Int), .int .i64 (H' : Int), .slice (some ⟨cc, 0, none⟩) ln ln] 32)).alloc (.cells #[.int .i64 0, .int .i64 0, .int .i64 0] 34)) := (B3.alloc B3.size _).alloc (by have := B3.size; simp; omega) _
  have T4 : BytesAt ((w3.alloc (.cells #[.int .i64 (W' : Int), .int .i64 (H' : Int), .slice (some ⟨cc, 0, none⟩) ln ln] 32)).alloc (.cells #[.int .i64 0, .int .i64 0, .int .i64 0] 34)) (some ⟨cc, 0, none⟩) ln l := (hbt.alloc _).alloc _
  go_wp2_with fail
  generalize (w3.alloc (.cells #[.int .i64 (W' : Int), .int .i64 (H' : Int), .slice (some ⟨cc, 0, none⟩) ln ln] 32)).alloc (.cells #[.int .i64 0, .int .i64 0, .int .i64 0] 34) = w4 at I4 F4 L4 G4 B4 T4 ⊢
  generalize w3.heap.size + 1 = qf at F4 ⊢
  generalize w3.heap.size = qm at I4 ⊢
  clear l3 g3 B3
  obtain ⟨c0, c1, c2, z0, z1, z2, fl⟩ := FB.all F4
  obtain ⟨e0, e1, e2, v0, v1, v2, il⟩ := IB.all I4
  obtain ⟨k0, k1, k2, k3⟩ := GB.all G4
  go_quiet ((first | (go_at_call 26; exact Calls.quiet_of_same ((peak_at (x := y) (g := g) (by first | exact L4 | exact Blk.drew L4 | exact Blk.drewN L4 _) HPK.out).mono fun _ _ ⟨h, k⟩ => ⟨h, k.symm⟩)) | (go_at_call 18; exact Calls.quiet_of_same ((steps_at27 (x := y) (g := g) (by first | exact L4 | exact Blk.drew L4 | exact Blk.drewN L4 _) HST.out).mono fun _ _ ⟨h, k⟩ => ⟨h, k.symm⟩))))
  all_goals clear k0 k1 k2 k3
  all_goals go_wp2_with (first
   | (go_at_call 22; refine (wide15 _).mono ?_; rintro e w6 ⟨rfl, b6⟩)
   | (go_at_call 21; refine (HN.out _).mono ?_; rintro e w7 ⟨g7, y7, l7, hy7, b7, hor⟩; rw [HT.out] at hor; obtain ⟨W2, H2, m2, d2, hr, rfl, hbt7⟩ := hor.elim (fun ⟨_, _, _, h, _⟩ => by cases h) id; injection hr with hr1 hr2 hr3; subst hr1 hr2 hr3; rw [HLN.out] at hbt7 ⊢; have F7 : FB w7 qf 0 0 0 := FB.below (FB.below (by first | exact F4 | exact Blk.drew F4 | exact Blk.drewN F4 _) b6) b7; have I6 : IB w6 qm (W' : Int) (H' : Int) (some ⟨cc, 0, none⟩) ln ln := Blk.below (by first | exact I4 | exact Blk.drew I4 | exact Blk.drewN I4 _) b6 (Blk.lt I4); have I7 : IB w7 qm (W' : Int) (H' : Int) (some ⟨cc, 0, none⟩) ln ln := Blk.below I6 b7 (Blk.lt I6); have T6 : BytesAt w6 (some ⟨cc, 0, none⟩) ln l := BytesAt.below (by first | exact T4 | exact (show BytesAt w4.drew _ _ _ from T4) | exact (show BytesAt (w4.drewN _) _ _ _ from T4)) b6; have T7 := T6.below b7; have U1 := (T7.alloc (.cells #[.int .i64 (W' : Int), .int .i64 (H' : Int), .slice (some ⟨d2, 0, none⟩) ln ln] 32)).alloc (.cells #[.int .i64 0, .int .i64 0, .int .i64 0] 34); have U2 := (hbt7.alloc (.cells #[.int .i64 (W' : Int), .int .i64 (H' : Int), .slice (some ⟨d2, 0, none⟩) ln ln] 32)).alloc (.cells #[.int .i64 0, .int .i64 0, .int .i64 0] 34); clear c0 c1 c2 z0 z1 z2 fl e0 e1 e2 v0 v1 v2 il; obtain ⟨c0, c1, c2, z0, z1, z2, fl⟩ := FB.all F7; obtain ⟨e0, e1, e2, v0, v1, v2, il⟩ := IB.all I7)
   | (go_at_call 12; refine (refSame_bool (same_self _ _ _) U1 U2).mono ?_; rintro e w8 ⟨rfl, b8⟩; have G6 : GB w6 w.heap.size ba bb (262144) bd := Blk.below (by first | exact G4 | exact Blk.drew G4 | exact Blk.drewN G4 _) b6 (Blk.lt G4); have G7 : GB w7 w.heap.size ba bb (262144) bd := Blk.below G6 b7 (Blk.lt G6); have G8 : GB w8 w.heap.size ba bb (262144) bd := Blk.below (Blk.alloc (Blk.alloc G7 _) _) b8 (Blk.lt (Blk.alloc (Blk.alloc G7 _) _)); have I8 : IB w8 qm (W' : Int) (H' : Int) (some ⟨cc, 0, none⟩) ln ln := Blk.below (Blk.alloc (Blk.alloc I7 _) _) b8 (Blk.lt (Blk.alloc (Blk.alloc I7 _) _)); have F8 : FB w8 qf 0 0 0 := FB.below (Blk.alloc (Blk.alloc F7 _) _) b8; clear c0 c1 c2 z0 z1 z2 fl e0 e1 e2 v0 v1 v2 il; obtain ⟨c0, c1, c2, z0, z1, z2, fl⟩ := FB.all F8; obtain ⟨e0, e1, e2, v0, v1, v2, il⟩ := IB.all I8; obtain ⟨k0, k1, k2, k3⟩ := GB.all G8)
   | (go_at_call 19; refine (awake15_any _).mono ?_; rintro e w9 ⟨rfl, b9⟩))
  all_goals go_ret
  all_goals
   have B7 := below_next (below_next (by first | exact B4 | exact B4.drew | exact below_drewN B4 _) b6) b7
   have B7' := B7.alloc B7.size (.cells #[.int .i64 (W' : Int), .int .i64 (H' : Int), .slice (some ⟨d2, 0, none⟩) ln ln] 32)
   have B8 := below_next (B7'.alloc B7'.size (.cells #[.int .i64 0, .int .i64 0, .int .i64 0] 34)) b8
   exact ⟨rfl, below_next B8 b9⟩
set_option maxRecDepth 100000 in
set_option maxHeartbeats 40000000 in
theorem pnmBudgets_hp {s : ByteArray} {ba bb bc bd : Int} {W H : Nat} (hs : s.size ≤ 600) (hp : fits ba ∧ fits bb ∧ fits bc ∧ fits bd) (hc : ¬ bc ≤ 262144 ∧ ¬ bc < 0) (hd : ¬ bd < 0) (u : pnmSides s = (W, H)) (hW : W ≤ 100) (hH : H ≤ 100) (w : World) :
  Calls Tryz.prog 7 #[.string s, .agg #[.int .i64 ba, .int .i64 bb, .int .i64 bc, .int .i64 bd]] w fun e w' => e = .returned (.bool true) ∧ Below w.heap.size w w' := by
 have hsI : ¬ (600 : Int) < (s.size : Int) := by omega
 have hWI : ¬ (100 : Int) < (W : Int) := by omega
 have hHI : ¬ (100 : Int) < (H : Int) := by omega
 have hsm : s.size ≤ 1099511627776 := by omega
 have HR0 := fun w => refPnmSides hsm w
 rw [u] at HR0
 have HR := Lib.hid HR0
 have HG := Lib.hid (fun w => pnmRunG (s := s) (ba := ba) (bb := bb) (bc := 262144) (bd := bd) hsm hp.1.2 hp.2.1.2 (by have := hp.2.2.1.2; omega) hp.2.2.2.2 w)
 have HN := Lib.hid (fun w => pnmRunW hs (by rw [u]; exact hW) (by rw [u]; exact hH) w)
 obtain ⟨hc1, hc2⟩ := hc
 clear HR0 u hp hW hH hs hsm
 go_enter Tryz.func7, Tryz.ntmps7
 go_wp2_with (first
  | (go_at_call 20; refine (HR.out _).mono ?_; rintro e w1 ⟨rfl, b1⟩; have g1 : GB w1 w.heap.size ba bb (262144) bd := Blk.below (Blk.new _ _ _) b1 (by simp); obtain ⟨k0, k1, k2, k3⟩ := GB.all g1; have hl1 := Blk.lt g1; have B1 : Below w.heap.size w w1 := below_next ((Below.refl _ _).alloc (Nat.le_refl _) _) b1))
 refine (HG.out _).mono ?_
 rintro e w3 ⟨g, y, l3, yok, yB, yS, b3, himg, hany⟩
 have hP : ¬ (262144 : Int) < y.peak := by have := yok.p1; rw [yB, nought_max] at this; omega
 have hS : ¬ (bd : Int) < y.steps := by have := yok.t1; rw [yS, nought_max] at this; omega
 obtain ⟨pk, hpk⟩ : ∃ pk, y.peak = pk := ⟨_, rfl⟩
 obtain ⟨st, hst⟩ : ∃ st, y.steps = st := ⟨_, rfl⟩
 rw [hpk] at hP
 rw [hst] at hS
 have hPd := decide_eq_false hP
 have hSd := decide_eq_false hS
 have HPK := Lib.hid hpk
 have HST := Lib.hid hst
 have B3 := below_next B1 b3
 have g3 : GB w3 w.heap.size ba bb (262144) bd := Blk.below g1 b3 hl1
 clear hpk hst yB yS yok b1 b3 B1 g1 k0 k1 k2 k3 hl1
 have HIMG := Lib.hid himg
 clear himg
 cases hany with
 | spent a ha hr hb0 hen =>
  subst hen
  have haI : (a : Int) ≤ (s.size : Int) := by omega
  have ha0 : (0 : Int) ≤ (a : Int) := by omega
  have HRB : Hid (decide (y.reason ≠ 0) = true) := Lib.hid (decide_eq_true hr)
  have HB0 := Lib.hid hb0
  clear ha hr hb0
  have I4 : IB ((w3.alloc (.cells #[.int .i64 0, .int .i64 0, .slice none 0 0] 32)).alloc (.cells #[.int .i64 4, .int .i64 3, .int .i64 (a : Int)] 34)) w3.heap.size 0 0 none 0 0 := Blk.alloc (Blk.new _ _ _) _
  have F4 : FB ((w3.alloc (.cells #[.int .i64 0, .int .i64 0, .slice none 0 0] 32)).alloc (.cells #[.int .i64 4, .int .i64 3, .int .i64 (a : Int)] 34)) (w3.heap.size + 1) 4 3 (a : Int) := Blk.new_at _ _ _ (by simp)
  have L4 : LedAt ((w3.alloc (.cells #[.int .i64 0, .int .i64 0, .slice none 0 0] 32)).alloc (.cells #[.int .i64 4, .int .i64 3, .int .i64 (a : Int)] 34)) g y := Blk.alloc (Blk.alloc l3 _) _
  have G4 : GB ((w3.alloc (.cells #[.int .i64 0, .int .i64 0, .slice none 0 0] 32)).alloc (.cells #[.int .i64 4, .int .i64 3, .int .i64 (a : Int)] 34)) w.heap.size ba bb (262144) bd := Blk.alloc (Blk.alloc g3 _) _
  have B4 : Below w.heap.size w ((w3.alloc (.cells #[.int .i64 0, .int .i64 0, .slice none 0 0] 32)).alloc (.cells #[.int .i64 4, .int .i64 3, .int .i64 (a : Int)] 34)) := (B3.alloc B3.size _).alloc (by have := B3.size; simp; omega) _
  have T4 : True := trivial
  go_wp2_with fail
  generalize (w3.alloc (.cells #[.int .i64 0, .int .i64 0, .slice none 0 0] 32)).alloc (.cells #[.int .i64 4, .int .i64 3, .int .i64 (a : Int)] 34) = w4 at I4 F4 L4 G4 B4 T4 ⊢
  generalize w3.heap.size + 1 = qf at F4 ⊢
  generalize w3.heap.size = qm at I4 ⊢
  clear l3 g3 B3
  obtain ⟨c0, c1, c2, z0, z1, z2, fl⟩ := FB.all F4
  obtain ⟨e0, e1, e2, v0, v1, v2, il⟩ := IB.all I4
  obtain ⟨k0, k1, k2, k3⟩ := GB.all G4
  go_quiet ((first | (go_at_call 26; exact Calls.quiet_of_same ((peak_at (x := y) (g := g) (by first | exact L4 | exact Blk.drew L4 | exact Blk.drewN L4 _) HPK.out).mono fun _ _ ⟨h, k⟩ => ⟨h, k.symm⟩)) | (go_at_call 18; exact Calls.quiet_of_same ((steps_at27 (x := y) (g := g) (by first | exact L4 | exact Blk.drew L4 | exact Blk.drewN L4 _) HST.out).mono fun _ _ ⟨h, k⟩ => ⟨h, k.symm⟩))))
  all_goals clear k0 k1 k2 k3
  all_goals go_wp2_with (first
   | (go_at_call 17; refine (broken_at (x := y) (g := g) (by first | exact L4 | exact Blk.drew L4 | exact Blk.drewN L4 _) HRB.out).mono ?_; rintro e w6 ⟨rfl, rfl⟩)
   | (go_at_call 25; refine (bytes_at (x := y) (g := g) (by first | exact L4 | exact Blk.drew L4 | exact Blk.drewN L4 _) HB0.out).mono ?_; rintro e w7 ⟨rfl, rfl⟩)
   | (go_at_call 27; refine (same_bool (same_self 0 0 []) (bytesNone _) (bytesNone _)).mono ?_; rintro e w8 ⟨rfl, b8⟩)
   | (go_at_call 19; refine (awake15_any _).mono ?_; rintro e w9 ⟨rfl, b9⟩))
  all_goals go_ret
  all_goals exact ⟨rfl, below_next (below_next (by first | exact B4 | exact B4.drew | exact below_drewN B4 _) b8) b9⟩
 | bad k a hk0 hk4 ht hen =>
  subst hen
  have hkI : ¬ (k : Int) = 4 := by omega
  have hkI0 : ¬ (k : Int) = 0 := by omega
  have HT := Lib.hid ht
  clear hk0 hk4 ht
  have I4 : IB ((w3.alloc (.cells #[.int .i64 0, .int .i64 0, .slice none 0 0] 32)).alloc (.cells #[.int .i64 (k : Int), .int .i64 3, .int .i64 (a : Int)] 34)) w3.heap.size 0 0 none 0 0 := Blk.alloc (Blk.new _ _ _) _
  have F4 : FB ((w3.alloc (.cells #[.int .i64 0, .int .i64 0, .slice none 0 0] 32)).alloc (.cells #[.int .i64 (k : Int), .int .i64 3, .int .i64 (a : Int)] 34)) (w3.heap.size + 1) (k : Int) 3 (a : Int) := Blk.new_at _ _ _ (by simp)
  have L4 : LedAt ((w3.alloc (.cells #[.int .i64 0, .int .i64 0, .slice none 0 0] 32)).alloc (.cells #[.int .i64 (k : Int), .int .i64 3, .int .i64 (a : Int)] 34)) g y := Blk.alloc (Blk.alloc l3 _) _
  have G4 : GB ((w3.alloc (.cells #[.int .i64 0, .int .i64 0, .slice none 0 0] 32)).alloc (.cells #[.int .i64 (k : Int), .int .i64 3, .int .i64 (a : Int)] 34)) w.heap.size ba bb (262144) bd := Blk.alloc (Blk.alloc g3 _) _
  have B4 : Below w.heap.size w ((w3.alloc (.cells #[.int .i64 0, .int .i64 0, .slice none 0 0] 32)).alloc (.cells #[.int .i64 (k : Int), .int .i64 3, .int .i64 (a : Int)] 34)) := (B3.alloc B3.size _).alloc (by have := B3.size; simp; omega) _
  have T4 : True := trivial
  go_wp2_with fail
  generalize (w3.alloc (.cells #[.int .i64 0, .int .i64 0, .slice none 0 0] 32)).alloc (.cells #[.int .i64 (k : Int), .int .i64 3, .int .i64 (a : Int)] 34) = w4 at I4 F4 L4 G4 B4 T4 ⊢
  generalize w3.heap.size + 1 = qf at F4 ⊢
  generalize w3.heap.size = qm at I4 ⊢
  clear l3 g3 B3
  obtain ⟨c0, c1, c2, z0, z1, z2, fl⟩ := FB.all F4
  obtain ⟨e0, e1, e2, v0, v1, v2, il⟩ := IB.all I4
  obtain ⟨k0, k1, k2, k3⟩ := GB.all G4
  go_quiet ((first | (go_at_call 26; exact Calls.quiet_of_same ((peak_at (x := y) (g := g) (by first | exact L4 | exact Blk.drew L4 | exact Blk.drewN L4 _) HPK.out).mono fun _ _ ⟨h, k⟩ => ⟨h, k.symm⟩)) | (go_at_call 18; exact Calls.quiet_of_same ((steps_at27 (x := y) (g := g) (by first | exact L4 | exact Blk.drew L4 | exact Blk.drewN L4 _) HST.out).mono fun _ _ ⟨h, k⟩ => ⟨h, k.symm⟩))))
  all_goals clear k0 k1 k2 k3
  all_goals go_wp2_with (first
   | (go_at_call 22; refine (wide15 _).mono ?_; rintro e w6 ⟨rfl, b6⟩)
   | (go_at_call 21; refine (HN.out _).mono ?_; rintro e w7 ⟨g7, y7, l7, hy7, b7, hor⟩; obtain ⟨k', a', _, hr, rfl⟩ : ∃ k' a' : Nat, k' ≠ 0 ∧ DRes.bad k a = .bad k' a' ∧ e = .returned (.tuple #[.agg #[.int .i64 0, .int .i64 0, .slice none 0 0], .agg #[.int .i64 (k' : Int), .int .i64 3, .int .i64 (a' : Int)], .pointer (some ⟨g7, 0, none⟩)]) := (by rw [HT.out] at hor; exact hor.elim id (fun ⟨_, _, _, _, h, _⟩ => by cases h)); obtain ⟨rfl, rfl⟩ := DRes.bad_inj hr; have F7 : FB w7 qf (k : Int) 3 (a : Int) := FB.below (FB.below (by first | exact F4 | exact Blk.drew F4 | exact Blk.drewN F4 _) b6) b7; have I6 : IB w6 qm 0 0 none 0 0 := Blk.below (by first | exact I4 | exact Blk.drew I4 | exact Blk.drewN I4 _) b6 (Blk.lt I4); have I7 : IB w7 qm 0 0 none 0 0 := Blk.below I6 b7 (Blk.lt I6); clear c0 c1 c2 z0 z1 z2 fl e0 e1 e2 v0 v1 v2 il; obtain ⟨c0, c1, c2, z0, z1, z2, fl⟩ := FB.all F7; obtain ⟨e0, e1, e2, v0, v1, v2, il⟩ := IB.all I7)
   | (go_at_call 12; refine (refSame_bool (same_self 0 0 []) (bytesNone _) (bytesNone _)).mono ?_; rintro e w8 ⟨rfl, b8⟩; have F8 : FB w8 qf (k : Int) 3 (a : Int) := FB.below (Blk.alloc (Blk.alloc F7 _) _) b8; clear c0 c1 c2 z0 z1 z2 fl; obtain ⟨c0, c1, c2, z0, z1, z2, fl⟩ := FB.all F8)
   | (go_at_call 19; refine (awake15_any _).mono ?_; rintro e w9 ⟨rfl, b9⟩))
  all_goals go_ret
  all_goals
   have B7 := below_next (below_next (by first | exact B4 | exact B4.drew | exact below_drewN B4 _) b6) b7
   have B7' := B7.alloc B7.size (.cells #[.int .i64 0, .int .i64 0, .slice none 0 0] 32)
   have B8 := below_next (B7'.alloc B7'.size (.cells #[.int .i64 (k : Int), .int .i64 3, .int .i64 (a : Int)] 34)) b8
   exact ⟨rfl, below_next B8 b9⟩
 | img W' H' l cc ht hen hbt =>
  subst hen
  obtain ⟨hWb, hHb⟩ := HIMG.out _ _ _ _ _ _ _ rfl
  have HT := Lib.hid ht
  obtain ⟨ln, hln⟩ : ∃ ln, l.length = ln := ⟨_, rfl⟩
  rw [hln] at hbt ⊢
  have HLN := Lib.hid hln
  clear ht hln
  have I4 : IB ((w3.alloc (.cells #[.int .i64 (W' : Int), .int .i64 (H' : Int), .slice (some ⟨cc, 0, none⟩) ln ln] 32)).alloc (.cells #[.int .i64 0, .int .i64 0, .int .i64 0] 34)) w3.heap.size (W' : Int) (H' : Int) (some ⟨cc, 0, none⟩) ln ln := Blk.alloc (Blk.new _ _ _) _
  have F4 : FB ((w3.alloc (.cells #[.int .i64 (W' : Int), .int .i64 (H' : Int), .slice (some ⟨cc, 0, none⟩) ln ln] 32)).alloc (.cells #[.int .i64 0, .int .i64 0, .int .i64 0] 34)) (w3.heap.size + 1) 0 0 0 := Blk.new_at _ _ _ (by simp)
  have L4 : LedAt ((w3.alloc (.cells #[.int .i64 (W' : Int), .int .i64 (H' : Int), .slice (some ⟨cc, 0, none⟩) ln ln] 32)).alloc (.cells #[.int .i64 0, .int .i64 0, .int .i64 0] 34)) g y := Blk.alloc (Blk.alloc l3 _) _
  have G4 : GB ((w3.alloc (.cells #[.int .i64 (W' : Int), .int .i64 (H' : Int), .slice (some ⟨cc, 0, none⟩) ln ln] 32)).alloc (.cells #[.int .i64 0, .int .i64 0, .int .i64 0] 34)) w.heap.size ba bb (262144) bd := Blk.alloc (Blk.alloc g3 _) _
  have B4 : Below w.heap.size w ((w3.alloc (.cells #[.int .i64 (W' : Int), .int .i64 (H' : Int), .slice (some ⟨cc, 0, none⟩) ln ln] 32)).alloc (.cells #[.int .i64 0, .int .i64 0, .int .i64 0] 34)) := (B3.alloc B3.size _).alloc (by have := B3.size; simp; omega) _
  have T4 : BytesAt ((w3.alloc (.cells #[.int .i64 (W' : Int), .int .i64 (H' : Int), .slice (some ⟨cc, 0, none⟩) ln ln] 32)).alloc (.cells #[.int .i64 0, .int .i64 0, .int .i64 0] 34)) (some ⟨cc, 0, none⟩) ln l := (hbt.alloc _).alloc _
  go_wp2_with fail
  generalize (w3.alloc (.cells #[.int .i64 (W' : Int), .int .i64 (H' : Int), .slice (some ⟨cc, 0, none⟩) ln ln] 32)).alloc (.cells #[.int .i64 0, .int .i64 0, .int .i64 0] 34) = w4 at I4 F4 L4 G4 B4 T4 ⊢
  generalize w3.heap.size + 1 = qf at F4 ⊢
  generalize w3.heap.size = qm at I4 ⊢
  clear l3 g3 B3
  obtain ⟨c0, c1, c2, z0, z1, z2, fl⟩ := FB.all F4
  obtain ⟨e0, e1, e2, v0, v1, v2, il⟩ := IB.all I4
  obtain ⟨k0, k1, k2, k3⟩ := GB.all G4
  go_quiet ((first | (go_at_call 26; exact Calls.quiet_of_same ((peak_at (x := y) (g := g) (by first | exact L4 | exact Blk.drew L4 | exact Blk.drewN L4 _) HPK.out).mono fun _ _ ⟨h, k⟩ => ⟨h, k.symm⟩)) | (go_at_call 18; exact Calls.quiet_of_same ((steps_at27 (x := y) (g := g) (by first | exact L4 | exact Blk.drew L4 | exact Blk.drewN L4 _) HST.out).mono fun _ _ ⟨h, k⟩ => ⟨h, k.symm⟩))))
  all_goals clear k0 k1 k2 k3
  all_goals go_wp2_with (first
   | (go_at_call 22; refine (wide15 _).mono ?_; rintro e w6 ⟨rfl, b6⟩)
   | (go_at_call 21; refine (HN.out _).mono ?_; rintro e w7 ⟨g7, y7, l7, hy7, b7, hor⟩; rw [HT.out] at hor; obtain ⟨W2, H2, m2, d2, hr, rfl, hbt7⟩ := hor.elim (fun ⟨_, _, _, h, _⟩ => by cases h) id; injection hr with hr1 hr2 hr3; subst hr1 hr2 hr3; rw [HLN.out] at hbt7 ⊢; have F7 : FB w7 qf 0 0 0 := FB.below (FB.below (by first | exact F4 | exact Blk.drew F4 | exact Blk.drewN F4 _) b6) b7; have I6 : IB w6 qm (W' : Int) (H' : Int) (some ⟨cc, 0, none⟩) ln ln := Blk.below (by first | exact I4 | exact Blk.drew I4 | exact Blk.drewN I4 _) b6 (Blk.lt I4); have I7 : IB w7 qm (W' : Int) (H' : Int) (some ⟨cc, 0, none⟩) ln ln := Blk.below I6 b7 (Blk.lt I6); have T6 : BytesAt w6 (some ⟨cc, 0, none⟩) ln l := BytesAt.below (by first | exact T4 | exact (show BytesAt w4.drew _ _ _ from T4) | exact (show BytesAt (w4.drewN _) _ _ _ from T4)) b6; have T7 := T6.below b7; have U1 := (T7.alloc (.cells #[.int .i64 (W' : Int), .int .i64 (H' : Int), .slice (some ⟨d2, 0, none⟩) ln ln] 32)).alloc (.cells #[.int .i64 0, .int .i64 0, .int .i64 0] 34); have U2 := (hbt7.alloc (.cells #[.int .i64 (W' : Int), .int .i64 (H' : Int), .slice (some ⟨d2, 0, none⟩) ln ln] 32)).alloc (.cells #[.int .i64 0, .int .i64 0, .int .i64 0] 34); clear c0 c1 c2 z0 z1 z2 fl e0 e1 e2 v0 v1 v2 il; obtain ⟨c0, c1, c2, z0, z1, z2, fl⟩ := FB.all F7; obtain ⟨e0, e1, e2, v0, v1, v2, il⟩ := IB.all I7)
   | (go_at_call 12; refine (refSame_bool (same_self _ _ _) U1 U2).mono ?_; rintro e w8 ⟨rfl, b8⟩; have G6 : GB w6 w.heap.size ba bb (262144) bd := Blk.below (by first | exact G4 | exact Blk.drew G4 | exact Blk.drewN G4 _) b6 (Blk.lt G4); have G7 : GB w7 w.heap.size ba bb (262144) bd := Blk.below G6 b7 (Blk.lt G6); have G8 : GB w8 w.heap.size ba bb (262144) bd := Blk.below (Blk.alloc (Blk.alloc G7 _) _) b8 (Blk.lt (Blk.alloc (Blk.alloc G7 _) _)); have I8 : IB w8 qm (W' : Int) (H' : Int) (some ⟨cc, 0, none⟩) ln ln := Blk.below (Blk.alloc (Blk.alloc I7 _) _) b8 (Blk.lt (Blk.alloc (Blk.alloc I7 _) _)); have F8 : FB w8 qf 0 0 0 := FB.below (Blk.alloc (Blk.alloc F7 _) _) b8; clear c0 c1 c2 z0 z1 z2 fl e0 e1 e2 v0 v1 v2 il; obtain ⟨c0, c1, c2, z0, z1, z2, fl⟩ := FB.all F8; obtain ⟨e0, e1, e2, v0, v1, v2, il⟩ := IB.all I8; obtain ⟨k0, k1, k2, k3⟩ := GB.all G8)
   | (go_at_call 19; refine (awake15_any _).mono ?_; rintro e w9 ⟨rfl, b9⟩))
  all_goals go_ret
  all_goals
   have B7 := below_next (below_next (by first | exact B4 | exact B4.drew | exact below_drewN B4 _) b6) b7
   have B7' := B7.alloc B7.size (.cells #[.int .i64 (W' : Int), .int .i64 (H' : Int), .slice (some ⟨d2, 0, none⟩) ln ln] 32)
   have B8 := below_next (B7'.alloc B7'.size (.cells #[.int .i64 0, .int .i64 0, .int .i64 0] 34)) b8
   exact ⟨rfl, below_next B8 b9⟩
end Go.Proofs.YtgmgcfjllijhgaaGreat
namespace Go.Proofs.YtgmgcfjllijhgaaGreat
open Go.RowKit
set_option linter.unusedVariables false
set_option linter.unusedSimpArgs false

theorem pnmBudgets_wide {s : ByteArray} {ba bb bc bd : Int} (hs : s.size ≤ 600) (u : 100 < (pnmSides s).1 ∨ 100 < (pnmSides s).2) (w : World) :
  Calls Tryz.prog 7 #[.string s, .agg #[.int .i64 ba, .int .i64 bb, .int .i64 bc, .int .i64 bd]] w fun e w' => e = .returned (.bool true) ∧ Below w.heap.size w w' := by
 have hsI : ¬ (600 : Int) < (s.size : Int) := by omega
 have HR := Lib.hid (fun w => refPnmSides (s := s) (by omega) w)
 generalize (pnmSides s).1 = W at u HR
 generalize (pnmSides s).2 = H at u HR
 have HB : Below w.heap.size w (w.alloc (.cells #[.int .i64 ba, .int .i64 bb, .int .i64 bc, .int .i64 bd] 47)) := (Below.refl _ _).alloc (Nat.le_refl _) _
 by_cases hb : bc ≤ 262144
 all_goals
  by_cases hW : 100 < W
  ·have hWI : (100 : Int) < (W : Int) := by omega
   clear u hs hW
   go_enter Tryz.func7, Tryz.ntmps7
   go_wp2_with (first
    | (go_at_call 20; refine (HR.out _).mono ?_; rintro e w1 ⟨rfl, b1⟩; have B1 : Below w.heap.size w w1 := below_next ((Below.refl _ _).alloc (Nat.le_refl _) _) b1)
    | (go_at_call 19; refine (awake15_any _).mono ?_; rintro e w2 ⟨rfl, b2⟩))
   go_ret
   exact ⟨rfl, below_next B1 b2⟩
  ·have hWI : ¬ (100 : Int) < (W : Int) := by omega
   have hHI : (100 : Int) < (H : Int) := by omega
   clear u hs hW
   go_enter Tryz.func7, Tryz.ntmps7
   go_wp2_with (first
    | (go_at_call 20; refine (HR.out _).mono ?_; rintro e w1 ⟨rfl, b1⟩; have B1 : Below w.heap.size w w1 := below_next ((Below.refl _ _).alloc (Nat.le_refl _) _) b1)
    | (go_at_call 19; refine (awake15_any _).mono ?_; rintro e w2 ⟨rfl, b2⟩))
   go_ret
   exact ⟨rfl, below_next B1 b2⟩
theorem pnmBudgets_said (w : World) (s : ByteArray) (hs : s.size ≤ maxLen) (ba bb bc bd : Int) (hp : fits ba ∧ fits bb ∧ fits bc ∧ fits bd) :
  Calls Tryz.prog 7 #[.string s, .agg #[.int .i64 ba, .int .i64 bb, .int .i64 bc, .int .i64 bd]] w fun e w' => e = .returned (.bool true) ∧ Below w.heap.size w w' := by
 by_cases hlen : s.size ≤ 600
 ·by_cases u : 100 < (pnmSides s).1 ∨ 100 < (pnmSides s).2
  ·exact pnmBudgets_wide hlen u w
  ·have uW : (pnmSides s).1 ≤ 100 := Nat.le_of_not_lt fun e => u (.inl e)
   have uH : (pnmSides s).2 ≤ 100 := Nat.le_of_not_lt fun e => u (.inr e)
   by_cases h1 : bc ≤ 262144
   ·by_cases h2 : bc < 0
    ·by_cases h3 : bd < 0
     ·exact pnmBudgets_nn hlen hp ⟨h1, h2⟩ h3 rfl uW uH w
     ·exact pnmBudgets_np hlen hp ⟨h1, h2⟩ h3 rfl uW uH w
    ·by_cases h3 : bd < 0
     ·exact pnmBudgets_mn hlen hp ⟨h1, h2⟩ h3 rfl uW uH w
     ·exact pnmBudgets_mp hlen hp ⟨h1, h2⟩ h3 rfl uW uH w
   ·have h2 : ¬ bc < 0 := by omega
    by_cases h3 : bd < 0
    ·exact pnmBudgets_hn hlen hp ⟨h1, h2⟩ h3 rfl uW uH w
    ·exact pnmBudgets_hp hlen hp ⟨h1, h2⟩ h3 rfl uW uH w
 ·have hI : (600 : Int) < (s.size : Int) := by omega
  go_enter Tryz.func7, Tryz.ntmps7
  go_wp2_with (go_at_call 19; refine (awake15_any _).mono ?_; rintro e w2 ⟨rfl, b2⟩)
  go_ret
  exact ⟨rfl, below_next ((Below.refl _ _).alloc (Nat.le_refl _) _) b2⟩
end Go.Proofs.YtgmgcfjllijhgaaGreat
