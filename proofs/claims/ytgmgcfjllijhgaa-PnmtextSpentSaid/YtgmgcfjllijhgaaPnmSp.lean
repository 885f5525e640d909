/- The law PnmtextSpent. -/
import Derived.Test.YtgmgcfjllijhgaaPnmLw13
import Derived.Test.YtgmgcfjllijhgaaPnmRef
namespace Go.Proofs.Ytgmgcfjllijhgaa
open Go.RowKit
set_option linter.unusedVariables false
set_option linter.unusedSimpArgs false

set_option maxRecDepth 100000 in
set_option maxHeartbeats 4000000 in
theorem spent_no {s : ByteArray} {wk : Nat} (hs : s.size ≤ 600) {K W H M n kd pl : Nat} (hh : headAt (nats s) = ⟨K, W, H, M, n, kd, pl⟩) (hc : kd ≠ 0 ∨ kd = 0 ∧ (3 < K ∨ K ≤ 3 ∧ (100 < W ∨ W ≤ 100 ∧ 100 < H))) (w : World) : Calls Try.prog 3 #[.string s, .int .u16 (wk : Int)] w fun e w' => e = .returned (.bool true) ∧ Below w.heap.size w w' := by
  have hsI : ¬ (600 : Int) < (s.size : Int) := by omega
  have HR0 := fun w => refHead_any s w (by omega)
  rw [hh] at HR0
  have HR : Hid (∀ w : World, Calls Try.prog 5 #[.string s] w fun e w' => e = .returned (.agg #[.int .i64 (K : Int), .int .i64 (W : Int), .int .i64 (H : Int), .int .i64 (M : Int), .int .i64 (n : Int), .int .i64 (kd : Int), .int .i64 (pl : Int)]) ∧ Below w.heap.size w w') := Lib.hid HR0
  clear HR0 hh hs
  rcases hc with h0 | ⟨rfl, h1 | ⟨h1, h2 | ⟨h2, h3⟩⟩⟩
  · have i0 : ¬ (kd : Int) = 0 := by omega
    clear h0
    go_enter Try.func3, Try.ntmps3
    go_wp2_with (first
      | (go_at_call 5; refine (HR.out _).mono ?_; rintro e w1 ⟨rfl, b1⟩)
      | (go_at_call 4; refine (awake13_any _).mono ?_; rintro e w9 ⟨rfl, b9⟩))
    go_ret
    exact ⟨rfl, below_next (b1.alloc b1.size _) b9⟩
  · have i1 : (3 : Int) < (K : Int) := by omega
    clear h1
    go_enter Try.func3, Try.ntmps3
    go_wp2_with (first
      | (go_at_call 5; refine (HR.out _).mono ?_; rintro e w1 ⟨rfl, b1⟩)
      | (go_at_call 4; refine (awake13_any _).mono ?_; rintro e w9 ⟨rfl, b9⟩))
    go_ret
    exact ⟨rfl, below_next (b1.alloc b1.size _) b9⟩
  · have i1 : ¬ (3 : Int) < (K : Int) := by omega
    have i2 : (100 : Int) < (W : Int) := by omega
    clear h1 h2
    go_enter Try.func3, Try.ntmps3
    go_wp2_with (first
      | (go_at_call 5; refine (HR.out _).mono ?_; rintro e w1 ⟨rfl, b1⟩)
      | (go_at_call 4; refine (awake13_any _).mono ?_; rintro e w9 ⟨rfl, b9⟩))
    go_ret
    exact ⟨rfl, below_next (b1.alloc b1.size _) b9⟩
  · have i1 : ¬ (3 : Int) < (K : Int) := by omega
    have i2 : ¬ (100 : Int) < (W : Int) := by omega
    have i3 : (100 : Int) < (H : Int) := by omega
    clear h1 h2 h3
    go_enter Try.func3, Try.ntmps3
    go_wp2_with (first
      | (go_at_call 5; refine (HR.out _).mono ?_; rintro e w1 ⟨rfl, b1⟩)
      | (go_at_call 4; refine (awake13_any _).mono ?_; rintro e w9 ⟨rfl, b9⟩))
    go_ret
    exact ⟨rfl, below_next (b1.alloc b1.size _) b9⟩
set_option maxRecDepth 100000 in
set_option maxHeartbeats 8000000 in
theorem spent_in {s : ByteArray} {wk : Nat} (hwk : wk ≤ 65535) (hs : s.size ≤ 600) {K W H M n : Nat} (hh : HeadOk s ⟨K, W, H, M, n, 0, 0⟩) (hK : K ≤ 3) (hW : W ≤ 100) (hH : H ≤ 100) (w : World) : Calls Try.prog 3 #[.string s, .int .u16 (wk : Int)] w fun e w' => e = .returned (.bool true) ∧ Below w.heap.size w w' := by
  have hsI : ¬ (600 : Int) < (s.size : Int) := by omega
  have hKI : ¬ (3 : Int) < (K : Int) := by omega
  have hWI : ¬ (100 : Int) < (W : Int) := by omega
  have hHI : ¬ (100 : Int) < (H : Int) := by omega
  have hsm : s.size ≤ 1099511627776 := by omega
  have HR0 := fun w => refHead_any s w hsm
  rw [hh.is] at HR0
  have HR : Hid (∀ w : World, Calls Try.prog 5 #[.string s] w fun e w' => e = .returned (.agg #[.int .i64 (K : Int), .int .i64 (W : Int), .int .i64 (H : Int), .int .i64 (M : Int), .int .i64 (n : Int), .int .i64 0, .int .i64 0]) ∧ Below w.heap.size w w') := Lib.hid HR0
  have hwr : IntKind.i64.wrap (wk : Int) = (wk : Int) := IntWalk.i64_in _ (by omega)
  obtain ⟨m, hm⟩ : ∃ m : Nat, wk % 2000 = m := ⟨_, rfl⟩
  have hmr : (wk : Int).tmod 2000 = (m : Int) := by rw [Int.tmod_eq_emod_of_nonneg (by omega)]; omega
  have hm2 : m < 2000 := by omega
  have HM := Lib.hid (fun w => readC13 (s := s) (h := ⟨K, W, H, M, n, 0, 0⟩) (wk := (m : Int)) (x0 := Led.new 100 100 40000 (m : Int)) rfl (by constructor <;> simp [Led.new, nought] <;> omega) rfl rfl hsm hh hK hW hH w)
  have HN := Lib.hid (fun w => readC13 (s := s) (h := ⟨K, W, H, M, n, 0, 0⟩) (wk := 100000) (x0 := Led.new 100 100 40000 100000) rfl (by constructor <;> decide) rfl rfl hsm hh hK hW hH w)
  have hWH : W * H ≤ 100 * 100 := Nat.mul_le_mul hW hH
  have HH : Hid (HeadOk s ⟨K, W, H, M, n, 0, 0⟩ ∧ W ≤ 100 ∧ H ≤ 100 ∧ ((s.size + W * H * 7 + 9 : Nat) : Int) ≤ 100000) := Lib.hid ⟨hh, hW, hH, by omega⟩
  have HSZ := Lib.hid hs
  have HMS : Hid ((Led.new 100 100 40000 (m : Int)).S = (m : Int)) := Lib.hid (by show nought (m : Int) = m; unfold nought; split <;> omega)
  clear HR0 hh hK hW hH hWH hm hs hsm hm2 hwk
  go_enter Try.func3, Try.ntmps3
  go_upto_region 6 with (go_at_call 5; refine (HR.out _).mono ?_; rintro e w1 ⟨rfl, b1⟩)
  have B1 := b1.alloc b1.size (.cells #[.int .i64 (K : Int), .int .i64 (W : Int), .int .i64 (H : Int), .int .i64 (M : Int), .int .i64 (n : Int), .int .i64 0, .int .i64 0] 25)
  clear b1
  generalize w1.alloc (.cells #[.int .i64 (K : Int), .int .i64 (W : Int), .int .i64 (H : Int), .int .i64 (M : Int), .int .i64 (n : Int), .int .i64 0, .int .i64 0] 25) = w2 at B1 ⊢
  go_upto_region 7 with (go_at_call 6; refine (HM.out _).mono ?_; rintro e w3 h3; obtain ⟨g, y, l3, hst, b3, hor⟩ := lawCases rfl rfl h3; rw [HMS.out] at hst; obtain ⟨st, hse⟩ : ∃ st, y.steps = st := ⟨_, rfl⟩; rw [hse] at hst; have hsd : ¬ (m : Int) < st := (by omega); have HST := Lib.hid hse; have B3 := below_next B1 b3; clear hst hse h3 b3; unfold LawWays LawTold x0V imgRet at hor; rcases hor with ⟨kk, fm, aa, b, rfl, haa, hkb, hrs⟩ | ⟨kk, aa, hk0, hk4, ht, rfl⟩ | ⟨W', H', l, cc, ht, rfl, hbt⟩)
  · rcases hkb with rfl | ⟨rfl, rfl⟩
    all_goals
      have HRB : Hid (decide (y.reason ≠ 0) = true) := Lib.hid (decide_eq_true hrs)
      have ha0 : (0 : Int) ≤ (aa : Int) := by omega
      have haI : (aa : Int) ≤ (s.size : Int) := by omega
      clear hrs haa
    · have I4 : IB ((w3.alloc (.cells #[.int .i64 0, .int .i64 0, .slice none 0 0] 29)).alloc (.cells #[.int .i64 4, .int .i64 (fm : Int), .int .i64 (aa : Int)] 31)) w3.heap.size 0 0 none 0 0 := Blk.alloc (Blk.new _ _ _) _
      have F4 : FB ((w3.alloc (.cells #[.int .i64 0, .int .i64 0, .slice none 0 0] 29)).alloc (.cells #[.int .i64 4, .int .i64 (fm : Int), .int .i64 (aa : Int)] 31)) (w3.heap.size + 1) 4 (fm : Int) (aa : Int) := Blk.new_at _ _ _ (by simp)
      have L4 : LedAt ((w3.alloc (.cells #[.int .i64 0, .int .i64 0, .slice none 0 0] 29)).alloc (.cells #[.int .i64 4, .int .i64 (fm : Int), .int .i64 (aa : Int)] 31)) g y := Blk.alloc (Blk.alloc l3 _) _
      have B4 : Below w.heap.size w ((w3.alloc (.cells #[.int .i64 0, .int .i64 0, .slice none 0 0] 29)).alloc (.cells #[.int .i64 4, .int .i64 (fm : Int), .int .i64 (aa : Int)] 31)) := (B3.alloc B3.size _).alloc (by have := B3.size; simp; omega) _
      clear l3 B3
      generalize (w3.alloc (.cells #[.int .i64 0, .int .i64 0, .slice none 0 0] 29)).alloc (.cells #[.int .i64 4, .int .i64 (fm : Int), .int .i64 (aa : Int)] 31) = w4 at I4 F4 L4 B4 ⊢
      generalize w3.heap.size + 1 = qf at F4 ⊢
      generalize w3.heap.size = qm at I4 ⊢
      obtain ⟨c0, c1, c2, z0, z1, z2, fl⟩ := FB.all F4
      obtain ⟨e0, e1, e2, v0, v1, v2, il⟩ := IB.all I4
      go_wp2_with (first
        | (go_at_call 7; refine (steps_at27 (x := y) (g := g) (by first | exact L4 | exact Blk.drew L4 | exact Blk.drewN L4 _) HST.out).mono ?_; rintro e w6 ⟨rfl, rfl⟩)
        | (go_at_call 8; refine (broken_at (x := y) (g := g) (by first | exact L4 | exact Blk.drew L4 | exact Blk.drewN L4 _) HRB.out).mono ?_; rintro e w7 ⟨rfl, rfl⟩)
        | (go_at_call 4; refine (awake13_any _).mono ?_; rintro e w9 ⟨rfl, b9⟩))
      go_ret
      exact ⟨rfl, below_next (by first | exact B4 | exact B4.drew | exact below_drewN B4 _) b9⟩
    · have I4 : IB ((w3.alloc (.cells #[.int .i64 0, .int .i64 0, .slice none 0 0] 29)).alloc (.cells #[.int .i64 0, .int .i64 (fm : Int), .int .i64 (aa : Int)] 31)) w3.heap.size 0 0 none 0 0 := Blk.alloc (Blk.new _ _ _) _
      have F4 : FB ((w3.alloc (.cells #[.int .i64 0, .int .i64 0, .slice none 0 0] 29)).alloc (.cells #[.int .i64 0, .int .i64 (fm : Int), .int .i64 (aa : Int)] 31)) (w3.heap.size + 1) 0 (fm : Int) (aa : Int) := Blk.new_at _ _ _ (by simp)
      have L4 : LedAt ((w3.alloc (.cells #[.int .i64 0, .int .i64 0, .slice none 0 0] 29)).alloc (.cells #[.int .i64 0, .int .i64 (fm : Int), .int .i64 (aa : Int)] 31)) g y := Blk.alloc (Blk.alloc l3 _) _
      have B4 : Below w.heap.size w ((w3.alloc (.cells #[.int .i64 0, .int .i64 0, .slice none 0 0] 29)).alloc (.cells #[.int .i64 0, .int .i64 (fm : Int), .int .i64 (aa : Int)] 31)) := (B3.alloc B3.size _).alloc (by have := B3.size; simp; omega) _
      clear l3 B3
      generalize (w3.alloc (.cells #[.int .i64 0, .int .i64 0, .slice none 0 0] 29)).alloc (.cells #[.int .i64 0, .int .i64 (fm : Int), .int .i64 (aa : Int)] 31) = w4 at I4 F4 L4 B4 ⊢
      generalize w3.heap.size + 1 = qf at F4 ⊢
      generalize w3.heap.size = qm at I4 ⊢
      obtain ⟨c0, c1, c2, z0, z1, z2, fl⟩ := FB.all F4
      obtain ⟨e0, e1, e2, v0, v1, v2, il⟩ := IB.all I4
      go_wp2_with (first
        | (go_at_call 7; refine (steps_at27 (x := y) (g := g) (by first | exact L4 | exact Blk.drew L4 | exact Blk.drewN L4 _) HST.out).mono ?_; rintro e w6 ⟨rfl, rfl⟩)
        | (go_at_call 8; refine (broken_at (x := y) (g := g) (by first | exact L4 | exact Blk.drew L4 | exact Blk.drewN L4 _) HRB.out).mono ?_; rintro e w7 ⟨rfl, rfl⟩)
        | (go_at_call 4; refine (awake13_any _).mono ?_; rintro e w9 ⟨rfl, b9⟩))
      go_ret
      exact ⟨rfl, below_next (by first | exact B4 | exact B4.drew | exact below_drewN B4 _) b9⟩
  · have hkI : ¬ (kk : Int) = 4 := by omega
    have HT := Lib.hid ht
    clear ht hk0 hk4
    have I4 : IB ((w3.alloc (.cells #[.int .i64 0, .int .i64 0, .slice none 0 0] 29)).alloc (.cells #[.int .i64 (kk : Int), .int .i64 3, .int .i64 (aa : Int)] 31)) w3.heap.size 0 0 none 0 0 := Blk.alloc (Blk.new _ _ _) _
    have F4 : FB ((w3.alloc (.cells #[.int .i64 0, .int .i64 0, .slice none 0 0] 29)).alloc (.cells #[.int .i64 (kk : Int), .int .i64 3, .int .i64 (aa : Int)] 31)) (w3.heap.size + 1) (kk : Int) 3 (aa : Int) := Blk.new_at _ _ _ (by simp)
    have L4 : LedAt ((w3.alloc (.cells #[.int .i64 0, .int .i64 0, .slice none 0 0] 29)).alloc (.cells #[.int .i64 (kk : Int), .int .i64 3, .int .i64 (aa : Int)] 31)) g y := Blk.alloc (Blk.alloc l3 _) _
    have B4 : Below w.heap.size w ((w3.alloc (.cells #[.int .i64 0, .int .i64 0, .slice none 0 0] 29)).alloc (.cells #[.int .i64 (kk : Int), .int .i64 3, .int .i64 (aa : Int)] 31)) := (B3.alloc B3.size _).alloc (by have := B3.size; simp; omega) _
    clear l3 B3
    generalize (w3.alloc (.cells #[.int .i64 0, .int .i64 0, .slice none 0 0] 29)).alloc (.cells #[.int .i64 (kk : Int), .int .i64 3, .int .i64 (aa : Int)] 31) = w4 at I4 F4 L4 B4 ⊢
    generalize w3.heap.size + 1 = qf at F4 ⊢
    generalize w3.heap.size = qm at I4 ⊢
    obtain ⟨c0, c1, c2, z0, z1, z2, fl⟩ := FB.all F4
    obtain ⟨e0, e1, e2, v0, v1, v2, il⟩ := IB.all I4
    go_wp2_with (first
      | (go_at_call 7; refine (steps_at27 (x := y) (g := g) (by first | exact L4 | exact Blk.drew L4 | exact Blk.drewN L4 _) HST.out).mono ?_; rintro e w6 ⟨rfl, rfl⟩)
      | (go_at_call 6; refine (HN.out _).mono ?_; rintro e w7 h7; obtain ⟨g7, b7, hor⟩ := lawFull HH.out.1 HH.out.2.1 HH.out.2.2.1 HH.out.2.2.2 h7; unfold LawTold x0V at hor; rw [HT.out] at hor; obtain ⟨k', a', _, _, hr, rfl⟩ := hor.elim id (fun ⟨_, _, _, _, h, _⟩ => by cases h); obtain ⟨rfl, rfl⟩ := DRes.bad_inj hr; have F7 : FB w7 qf (kk : Int) 3 (aa : Int) := FB.below (by first | exact F4 | exact Blk.drew F4 | exact Blk.drewN F4 _) b7; have I7 : IB w7 qm 0 0 none 0 0 := Blk.below (by first | exact I4 | exact Blk.drew I4 | exact Blk.drewN I4 _) b7 (Blk.lt I4); clear c0 c1 c2 z0 z1 z2 fl e0 e1 e2 v0 v1 v2 il; obtain ⟨c0, c1, c2, z0, z1, z2, fl⟩ := FB.all F7; obtain ⟨e0, e1, e2, v0, v1, v2, il⟩ := IB.all I7)
      | (go_at_call 9; refine (refSame_bool (same_self 0 0 []) (bytesNone _) (bytesNone _)).mono ?_; rintro e w8 ⟨rfl, b8⟩)
      | (go_at_call 4; refine (awake13_any _).mono ?_; rintro e w9 ⟨rfl, b9⟩))
    go_ret
    have B7 := below_next (by first | exact B4 | exact B4.drew | exact below_drewN B4 _) b7
    have B7' := B7.alloc B7.size (.cells #[.int .i64 0, .int .i64 0, .slice none 0 0] 29)
    have B8 := below_next (B7'.alloc B7'.size (.cells #[.int .i64 (kk : Int), .int .i64 3, .int .i64 (aa : Int)] 31)) b8
    exact ⟨rfl, below_next B8 b9⟩
  · have HT := Lib.hid ht
    obtain ⟨ln, hln⟩ : ∃ ln, l.length = ln := ⟨_, rfl⟩
    rw [hln] at hbt ⊢
    have HLN := Lib.hid hln
    clear ht hln
    have I4 : IB ((w3.alloc (.cells #[.int .i64 (W' : Int), .int .i64 (H' : Int), .slice (some ⟨cc, 0, none⟩) ln ln] 29)).alloc (.cells #[.int .i64 0, .int .i64 0, .int .i64 0] 31)) w3.heap.size (W' : Int) (H' : Int) (some ⟨cc, 0, none⟩) ln ln := Blk.alloc (Blk.new _ _ _) _
    have F4 : FB ((w3.alloc (.cells #[.int .i64 (W' : Int), .int .i64 (H' : Int), .slice (some ⟨cc, 0, none⟩) ln ln] 29)).alloc (.cells #[.int .i64 0, .int .i64 0, .int .i64 0] 31)) (w3.heap.size + 1) 0 0 0 := Blk.new_at _ _ _ (by simp)
    have L4 : LedAt ((w3.alloc (.cells #[.int .i64 (W' : Int), .int .i64 (H' : Int), .slice (some ⟨cc, 0, none⟩) ln ln] 29)).alloc (.cells #[.int .i64 0, .int .i64 0, .int .i64 0] 31)) g y := Blk.alloc (Blk.alloc l3 _) _
    have B4 : Below w.heap.size w ((w3.alloc (.cells #[.int .i64 (W' : Int), .int .i64 (H' : Int), .slice (some ⟨cc, 0, none⟩) ln ln] 29)).alloc (.cells #[.int .i64 0, .int .i64 0, .int .i64 0] 31)) := (B3.alloc B3.size _).alloc (by have := B3.size; simp; omega) _
    have T4 : BytesAt ((w3.alloc (.cells #[.int .i64 (W' : Int), .int .i64 (H' : Int), .slice (some ⟨cc, 0, none⟩) ln ln] 29)).alloc (.cells #[.int .i64 0, .int .i64 0, .int .i64 0] 31)) (some ⟨cc, 0, none⟩) ln l := (hbt.alloc _).alloc _
    clear l3 B3
    generalize (w3.alloc (.cells #[.int .i64 (W' : Int), .int .i64 (H' : Int), .slice (some ⟨cc, 0, none⟩) ln ln] 29)).alloc (.cells #[.int .i64 0, .int .i64 0, .int .i64 0] 31) = w4 at I4 F4 L4 B4 T4 ⊢
    generalize w3.heap.size + 1 = qf at F4 ⊢
    generalize w3.heap.size = qm at I4 ⊢
    obtain ⟨c0, c1, c2, z0, z1, z2, fl⟩ := FB.all F4
    obtain ⟨e0, e1, e2, v0, v1, v2, il⟩ := IB.all I4
    go_wp2_with (first
      | (go_at_call 7; refine (steps_at27 (x := y) (g := g) (by first | exact L4 | exact Blk.drew L4 | exact Blk.drewN L4 _) HST.out).mono ?_; rintro e w6 ⟨rfl, rfl⟩)
      | (go_at_call 6; refine (HN.out _).mono ?_; rintro e w7 h7; obtain ⟨g7, b7, hor⟩ := lawFull HH.out.1 HH.out.2.1 HH.out.2.2.1 HH.out.2.2.2 h7; unfold LawTold imgRet at hor; rw [HT.out] at hor; obtain ⟨W2, H2, m2, d2, hr, rfl, hbt7⟩ := hor.elim (fun ⟨_, _, _, _, h, _⟩ => by cases h) id; injection hr with hr1 hr2 hr3; subst hr1 hr2 hr3; rw [HLN.out] at hbt7 ⊢; have F7 : FB w7 qf 0 0 0 := FB.below (by first | exact F4 | exact Blk.drew F4 | exact Blk.drewN F4 _) b7; have I7 : IB w7 qm (W' : Int) (H' : Int) (some ⟨cc, 0, none⟩) ln ln := Blk.below (by first | exact I4 | exact Blk.drew I4 | exact Blk.drewN I4 _) b7 (Blk.lt I4); have T7 := BytesAt.below (by first | exact T4 | exact (show BytesAt w4.drew _ _ _ from T4) | exact (show BytesAt (w4.drewN _) _ _ _ from T4)) b7; have U1 := ((T7).alloc (.cells #[.int .i64 (W' : Int), .int .i64 (H' : Int), .slice (some ⟨d2, 0, none⟩) ln ln] 29)).alloc (.cells #[.int .i64 0, .int .i64 0, .int .i64 0] 31); have U2 := ((hbt7).alloc (.cells #[.int .i64 (W' : Int), .int .i64 (H' : Int), .slice (some ⟨d2, 0, none⟩) ln ln] 29)).alloc (.cells #[.int .i64 0, .int .i64 0, .int .i64 0] 31); clear c0 c1 c2 z0 z1 z2 fl e0 e1 e2 v0 v1 v2 il; obtain ⟨c0, c1, c2, z0, z1, z2, fl⟩ := FB.all F7; obtain ⟨e0, e1, e2, v0, v1, v2, il⟩ := IB.all I7)
      | (go_at_call 9; refine (refSame_bool (same_self _ _ _) U1 U2).mono ?_; rintro e w8 ⟨rfl, b8⟩)
      | (go_at_call 4; refine (awake13_any _).mono ?_; rintro e w9 ⟨rfl, b9⟩))
    go_ret
    have B7 := below_next (by first | exact B4 | exact B4.drew | exact below_drewN B4 _) b7
    have B7' := B7.alloc B7.size (.cells #[.int .i64 (W' : Int), .int .i64 (H' : Int), .slice (some ⟨d2, 0, none⟩) ln ln] 29)
    have B8 := below_next (B7'.alloc B7'.size (.cells #[.int .i64 0, .int .i64 0, .int .i64 0] 31)) b8
    exact ⟨rfl, below_next B8 b9⟩
theorem pnmtextSpent_said (w : World) (s : ByteArray) (hs : s.size ≤ maxLen) (n : Int) (hn : (Lit.int .u16 n).wf = true) :
    Calls Try.prog 3 #[.string s, .int .u16 n] w fun e w' => e = .returned (.bool true) ∧ Below w.heap.size w w' := by
  obtain ⟨n0, n1⟩ : 0 ≤ n ∧ n ≤ 65535 := bounds_u16 hn
  obtain ⟨wk, rfl⟩ : ∃ m : Nat, n = m := ⟨n.toNat, by omega⟩
  clear hn hs
  by_cases h : s.size ≤ 600
  · obtain ⟨r, hr⟩ : ∃ r, headAt (nats s) = r := ⟨_, rfl⟩
    have hok := headOk_of (s := s)
    rw [hr] at hok
    obtain ⟨K, W, H, M, n, kd, pl⟩ := r
    by_cases h0 : kd = 0
    · by_cases h1 : K ≤ 3
      · by_cases h2 : W ≤ 100
        · by_cases h3 : H ≤ 100
          · have hh := hok h0
            have hp : pl = 0 := by
              have hg := headAt_good (nats s)
              rw [hr] at hg
              rcases hg with ⟨kd', pl', e, hk, _⟩ | ⟨K', W', H', M', n', e, _⟩
              · exact absurd ((congrArg HeadR.Kind e).symm.trans h0) hk
              · exact congrArg HeadR.Place e
            subst h0 hp
            exact spent_in (by omega) h hh h1 h2 h3 w
          · exact spent_no h hr (.inr ⟨h0, .inr ⟨h1, .inr ⟨h2, by omega⟩⟩⟩) w
        · exact spent_no h hr (.inr ⟨h0, .inr ⟨h1, .inl (by omega)⟩⟩) w
      · exact spent_no h hr (.inr ⟨h0, .inl (by omega)⟩) w
    · exact spent_no h hr (.inl h0) w
  · have i1 : (600 : Int) < (s.size : Int) := by omega
    go_enter Try.func3, Try.ntmps3
    go_wp2_with (go_at_call 4; refine (awake13_any _).mono ?_; rintro e w9 ⟨rfl, b9⟩)
    go_ret
    exact ⟨rfl, b9⟩
end Go.Proofs.Ytgmgcfjllijhgaa
