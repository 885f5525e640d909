/- The law PnmrawSteps. -/
import Derived.Test.YtgmgcfjllijhgaaGreatJPnmLw14
import Derived.Test.YtgmgcfjllijhgaaGreatJPnmRef
namespace Go.Proofs.YtgmgcfjllijhgaaGreat
open Go.RowKit
set_option linter.unusedVariables false
set_option linter.unusedSimpArgs false

section
variable {P : Program} {ops : Array Oper} {Q : Exit → Act → World → Prop} {md : Region.Mode} {S : World → Prop}
theorem AllReadyH.cons_aye {fuel : Nat} {listed : Array Bool} {a : Act} {w : World} {i : Nat} {o : Oper} {rs : List Nat} (ho : ops[i]? = some o) (hw : Region.wanted o (yielded ops a.tmps) = true)
    (h : ∀ K' : Act → World → Prop, Shut (∀ a w, S w → (S w → wpAnyH P md ops Q S fuel (listed.setIfInBounds i true) a w) → K' a w) → Oper.wp P o a w K' Q) (hs : AllReadyH P md ops Q S fuel listed a w rs) : AllReadyH P md ops Q S fuel listed a w (i :: rs) :=
  AllReadyH.cons ho (fun K' hK => by rw [if_pos hw]; exact h K' hK) hs
end
def StS (q : Nat) (W H : Int) (w : World) : Prop := w.cell? ⟨q, 1, none⟩ = some (.int .i64 W) ∧ w.cell? ⟨q, 2, none⟩ = some (.int .i64 H)
theorem StS.of {w : World} {q : Nat} {t : TypeId} {a b c d e : Value} {W H : Int} (h : Blk w q t #[a, .int .i64 W, .int .i64 H, b, c, d, e]) : StS q W H w := ⟨Blk.cell h 1, Blk.cell h 2⟩
set_option maxRecDepth 100000 in
set_option maxHeartbeats 4000000 in
theorem pnmrawSteps_no {s : ByteArray} (hs : s.size ≤ 600) {K W H M n kd pl : Nat} (hh : headAt (nats s) = ⟨K, W, H, M, n, kd, pl⟩) (hc : kd ≠ 0 ∨ kd = 0 ∧ (K < 4 ∨ ¬ K < 4 ∧ (100 < W ∨ W ≤ 100 ∧ 100 < H))) (w : World) : Calls Tryz.prog 5 #[.string s] w fun e w' => e = .returned (.bool true) ∧ Below w.heap.size w w' := by
  have hsI : ¬ (600 : Int) < (s.size : Int) := by omega
  have HR0 := fun w => refHead_any s w (by omega)
  rw [hh] at HR0
  have HR : Hid (∀ w : World, Calls Tryz.prog 9 #[.string s] w fun e w' => e = .returned (.agg #[.int .i64 (K : Int), .int .i64 (W : Int), .int .i64 (H : Int), .int .i64 (M : Int), .int .i64 (n : Int), .int .i64 (kd : Int), .int .i64 (pl : Int)]) ∧ Below w.heap.size w w') := Lib.hid HR0
  clear HR0 hh hs
  rcases hc with h0 | ⟨rfl, h1 | ⟨h1, h2 | ⟨h2, h3⟩⟩⟩
  · have i0 : ¬ (kd : Int) = 0 := by omega
    clear h0
    go_enter Tryz.func5, Tryz.ntmps5
    go_wp2_with (first
      | (go_at_call 9; refine (HR.out _).mono ?_; rintro e w1 ⟨rfl, b1⟩)
      | (go_at_call 14; refine (awake14_any _).mono ?_; rintro e w9 ⟨rfl, b9⟩))
    go_ret
    exact ⟨rfl, below_next (b1.alloc b1.size _) b9⟩
  · have i1 : (K : Int) < 4 := by omega
    clear h1
    go_enter Tryz.func5, Tryz.ntmps5
    go_wp2_with (first
      | (go_at_call 9; refine (HR.out _).mono ?_; rintro e w1 ⟨rfl, b1⟩)
      | (go_at_call 14; refine (awake14_any _).mono ?_; rintro e w9 ⟨rfl, b9⟩))
    go_ret
    exact ⟨rfl, below_next (b1.alloc b1.size _) b9⟩
  · have i1 : ¬ (K : Int) < 4 := by omega
    have i2 : (100 : Int) < (W : Int) := by omega
    clear h1 h2
    go_enter Tryz.func5, Tryz.ntmps5
    go_wp2_with (first
      | (go_at_call 9; refine (HR.out _).mono ?_; rintro e w1 ⟨rfl, b1⟩)
      | (go_at_call 14; refine (awake14_any _).mono ?_; rintro e w9 ⟨rfl, b9⟩))
    go_ret
    exact ⟨rfl, below_next (b1.alloc b1.size _) b9⟩
  · have i1 : ¬ (K : Int) < 4 := by omega
    have i2 : ¬ (100 : Int) < (W : Int) := by omega
    have i3 : (100 : Int) < (H : Int) := by omega
    clear h1 h2 h3
    go_enter Tryz.func5, Tryz.ntmps5
    go_wp2_with (first
      | (go_at_call 9; refine (HR.out _).mono ?_; rintro e w1 ⟨rfl, b1⟩)
      | (go_at_call 14; refine (awake14_any _).mono ?_; rintro e w9 ⟨rfl, b9⟩))
    go_ret
    exact ⟨rfl, below_next (b1.alloc b1.size _) b9⟩
set_option maxRecDepth 100000 in
set_option maxHeartbeats 8000000 in
theorem pnmrawSteps_in {s : ByteArray} (hs : s.size ≤ 600) {K W H M n : Nat} (hh : HeadOk s ⟨K, W, H, M, n, 0, 0⟩) (hK : ¬ K ≤ 3) (hW : W ≤ 100) (hH : H ≤ 100) (w : World) : Calls Tryz.prog 5 #[.string s] w fun e w' => e = .returned (.bool true) ∧ Below w.heap.size w w' := by
  have hsI : ¬ (600 : Int) < (s.size : Int) := by omega
  have hKI : ¬ (K : Int) < 4 := by omega
  have hWI : ¬ (100 : Int) < (W : Int) := by omega
  have hHI : ¬ (100 : Int) < (H : Int) := by omega
  have hsm : s.size ≤ 1099511627776 := by omega
  have HR0 := fun w => refHead_any s w hsm
  rw [hh.is] at HR0
  have HR : Hid (∀ w : World, Calls Tryz.prog 9 #[.string s] w fun e w' => e = .returned (.agg #[.int .i64 (K : Int), .int .i64 (W : Int), .int .i64 (H : Int), .int .i64 (M : Int), .int .i64 (n : Int), .int .i64 0, .int .i64 0]) ∧ Below w.heap.size w w') := Lib.hid HR0
  have HN := Lib.hid (fun w => readC14 (s := s) (h := ⟨K, W, H, M, n, 0, 0⟩) (wk := 100000) (x0 := Led.new 100 100 40000 100000) rfl (by constructor <;> decide) rfl rfl hsm hh hK hW hH w)
  have hWH : W * H ≤ 100 * 100 := Nat.mul_le_mul hW hH
  obtain ⟨P, hP⟩ : ∃ P, W * H = P := ⟨_, rfl⟩
  have HH : Hid (HeadOk s ⟨K, W, H, M, n, 0, 0⟩ ∧ ¬ K ≤ 3 ∧ W ≤ 100 ∧ H ≤ 100 ∧ ((s.size + W * H * 7 + 9 : Nat) : Int) ≤ 100000) := Lib.hid ⟨hh, hK, hW, hH, by omega⟩
  have h4 : 4 * (W : Int) * (H : Int) = ((4 * P : Nat) : Int) := by rw [← hP, Int.mul_assoc]; push_cast; rfl
  have hPW : IntKind.i64.wrap (4 * (W : Int) * (H : Int)) = ((4 * P : Nat) : Int) := by rw [h4]; exact IntWalk.i64_in _ (by omega)
  obtain ⟨P4, hP4⟩ : ∃ P4, 4 * P = P4 := ⟨_, rfl⟩
  rw [hP4] at hPW
  have hPb : P4 ≤ 40000 := by omega
  have HWW : Hid (∀ st : Int, st ≤ (P4 : Int) + 2 * (s.size : Int) + 20 → decide (st ≤ IntKind.i64.wrap (IntKind.i64.wrap (IntKind.i64.wrap (IntKind.i64.wrap (4 * (W : Int)) * (H : Int)) + IntKind.i64.wrap (2 * (s.size : Int))) + 20)) = true) := Lib.hid (fun st h => by
    have e1 : IntKind.i64.wrap (4 * (W : Int)) = 4 * (W : Int) := IntWalk.i64_in _ (by omega)
    have e3 : IntKind.i64.wrap (2 * (s.size : Int)) = 2 * (s.size : Int) := IntWalk.i64_in _ (by omega)
    have e4 : IntKind.i64.wrap ((P4 : Int) + 2 * (s.size : Int)) = (P4 : Int) + 2 * (s.size : Int) := IntWalk.i64_in _ (by omega)
    have e5 : IntKind.i64.wrap ((P4 : Int) + 2 * (s.size : Int) + 20) = (P4 : Int) + 2 * (s.size : Int) + 20 := IntWalk.i64_in _ (by omega)
    rw [e1, hPW, e3, e4, e5]
    exact decide_eq_true h)
  have HPP := Lib.hid (And.intro hP hP4)
  clear HR0 hh hK hWH hsm hP h4 hP4 hPW hPb
  go_enter Tryz.func5, Tryz.ntmps5
  go_upto_region 6 with (go_at_call 9; refine (HR.out _).mono ?_; rintro e w1 ⟨rfl, b1⟩)
  have B1 := b1.alloc b1.size (.cells #[.int .i64 (K : Int), .int .i64 (W : Int), .int .i64 (H : Int), .int .i64 (M : Int), .int .i64 (n : Int), .int .i64 0, .int .i64 0] 24)
  have D1 : Blk (w1.alloc (.cells #[.int .i64 (K : Int), .int .i64 (W : Int), .int .i64 (H : Int), .int .i64 (M : Int), .int .i64 (n : Int), .int .i64 0, .int .i64 0] 24)) w1.heap.size 24 #[.int .i64 (K : Int), .int .i64 (W : Int), .int .i64 (H : Int), .int .i64 (M : Int), .int .i64 (n : Int), .int .i64 0, .int .i64 0] := Blk.new _ _ _
  clear b1
  generalize w1.alloc (.cells #[.int .i64 (K : Int), .int .i64 (W : Int), .int .i64 (H : Int), .int .i64 (M : Int), .int .i64 (n : Int), .int .i64 0, .int .i64 0] 24) = w2 at B1 D1 ⊢
  generalize w1.heap.size = q2 at D1 ⊢
  go_upto_region 7 with (go_at_call 16; refine (HN.out _).mono ?_; rintro e w3 h3; obtain ⟨g, y, l3, hyr, hst, b3, hor⟩ := lawSteps HH.out.1 HH.out.2.1 HH.out.2.2.1 HH.out.2.2.2.1 HH.out.2.2.2.2 h3; have hst2 : y.steps ≤ ((s.size + P * 4 + 9 : Nat) : Int) := (by rw [← HPP.out.1]; exact hst); obtain ⟨st, hse⟩ : ∃ st, y.steps = st := ⟨_, rfl⟩; rw [hse] at hst2; have hP4' := HPP.out.2; have HSD := Lib.hid (HWW.out st (by omega)); have HST := Lib.hid hse; have HRB : Hid (decide (y.reason ≠ 0) = false) := Lib.hid (by rw [hyr]; rfl); have B3 := below_next B1 b3; have D3 : Blk w3 q2 24 #[.int .i64 (K : Int), .int .i64 (W : Int), .int .i64 (H : Int), .int .i64 (M : Int), .int .i64 (n : Int), .int .i64 0, .int .i64 0] := Blk.below D1 b3 (Blk.lt D1); clear hst hse hst2 hyr h3 b3 hP4' B1 D1; unfold LawTold x0V imgRet at hor; rcases hor with ⟨kk, aa, hk0, hk4, ht, rfl⟩ | ⟨W', H', l, cc, ht, rfl, hbt⟩)
  · clear ht hk0 hk4
    have L4 : LedAt ((w3.alloc (.cells #[.int .i64 0, .int .i64 0, .slice none 0 0] 32)).alloc (.cells #[.int .i64 (kk : Int), .int .i64 3, .int .i64 (aa : Int)] 34)) g y := Blk.alloc (Blk.alloc l3 _) _
    have B4 : Below w.heap.size w ((w3.alloc (.cells #[.int .i64 0, .int .i64 0, .slice none 0 0] 32)).alloc (.cells #[.int .i64 (kk : Int), .int .i64 3, .int .i64 (aa : Int)] 34)) := (B3.alloc B3.size _).alloc (by have := B3.size; simp; omega) _
    have D4 : Blk ((w3.alloc (.cells #[.int .i64 0, .int .i64 0, .slice none 0 0] 32)).alloc (.cells #[.int .i64 (kk : Int), .int .i64 3, .int .i64 (aa : Int)] 34)) q2 24 #[.int .i64 (K : Int), .int .i64 (W : Int), .int .i64 (H : Int), .int .i64 (M : Int), .int .i64 (n : Int), .int .i64 0, .int .i64 0] := Blk.alloc (Blk.alloc D3 _) _
    clear l3 B3 D3
    generalize (w3.alloc (.cells #[.int .i64 0, .int .i64 0, .slice none 0 0] 32)).alloc (.cells #[.int .i64 (kk : Int), .int .i64 3, .int .i64 (aa : Int)] 34) = w4 at L4 B4 D4 ⊢
    have HK := Lib.hid (And.intro L4 (And.intro D4 B4))
    clear L4 D4 B4
    go_upto_region 7 with fail
    refine wp_region_held_drew (S := StS q2 (W : Int) (H : Int)) (by kernel_rfl) (StS.of (Blk.drew HK.out.2.1)) (fun hHeld => ?_)
    refine wpAnyH_take (i := 0) (v := ?_) rfl (by kernel_rfl) (by kernel_rfl) (by kernel_rfl) (fun _ _ _ h => h) (Or.inl ⟨by kernel_rfl, ?_⟩) (by assumption) ?_
    rotate_left
    · intro w hSw; obtain ⟨s1, s2⟩ := hSw; go_simp; (try with_reducible rfl)
    (try simp only [Act.put, List.getElem_toArray, List.getElem_cons_succ, List.getElem_cons_zero, List.setIfInBounds_toArray, List.set_cons_zero, List.set_cons_succ])
    refine wpAnyH_take (i := 1) (v := ?_) rfl (by kernel_rfl) (by kernel_rfl) (by kernel_rfl) (fun _ _ _ h => h) (Or.inl ⟨by kernel_rfl, ?_⟩) (by assumption) ?_
    rotate_left
    · intro w hSw; obtain ⟨s1, s2⟩ := hSw; go_simp; (try with_reducible rfl)
    (try simp only [Act.put, List.getElem_toArray, List.getElem_cons_succ, List.getElem_cons_zero, List.setIfInBounds_toArray, List.set_cons_zero, List.set_cons_succ])
    refine wpAnyH_take (i := 2) (v := ?_) rfl (by kernel_rfl) (by kernel_rfl) (by kernel_rfl) (fun _ _ _ h => h) (Or.inl ⟨by kernel_rfl, ?_⟩) (by assumption) ?_
    rotate_left
    · intro w hSw; obtain ⟨s1, s2⟩ := hSw; go_simp; (try with_reducible rfl)
    (try simp only [Act.put, List.getElem_toArray, List.getElem_cons_succ, List.getElem_cons_zero, List.setIfInBounds_toArray, List.set_cons_zero, List.set_cons_succ])
    refine wpAnyH_ready (rs := [3]) (by kernel_rfl) (by simp) ?_
    refine AllReadyH.cons_aye rfl (by kernel_rfl) (fun K hK => ?_) AllReadyH.nil
    go_simp
    refine (broken_at (x := y) (g := g) (Blk.drew HK.out.1) HRB.out).mono ?_
    rintro e w7 ⟨rfl, rfl⟩
    refine hK.out _ _ (StS.of (Blk.drew HK.out.2.1)) (fun hHeld' => ?_)
    clear hK K hHeld
    have hHeld := hHeld'
    clear hHeld'
    (try simp only [Act.put, List.getElem_toArray, List.getElem_cons_succ, List.getElem_cons_zero, List.setIfInBounds_toArray, List.set_cons_zero, List.set_cons_succ])
    refine wpAnyH_take (i := 4) (v := ?_) rfl (by kernel_rfl) (by kernel_rfl) (by kernel_rfl) (fun _ _ _ h => h) (Or.inl ⟨by kernel_rfl, ?_⟩) (by assumption) ?_
    rotate_left
    · intro w hSw; obtain ⟨s1, s2⟩ := hSw; go_simp; (try with_reducible rfl)
    (try simp only [Act.put, List.getElem_toArray, List.getElem_cons_succ, List.getElem_cons_zero, List.setIfInBounds_toArray, List.set_cons_zero, List.set_cons_succ])
    refine wpAnyH_take (i := 5) (v := ?_) rfl (by kernel_rfl) (by kernel_rfl) (by kernel_rfl) (fun _ _ _ h => h) (Or.inl ⟨by kernel_rfl, ?_⟩) (by assumption) ?_
    rotate_left
    · intro w hSw; obtain ⟨s1, s2⟩ := hSw; go_simp; (try with_reducible rfl)
    (try simp only [Act.put, List.getElem_toArray, List.getElem_cons_succ, List.getElem_cons_zero, List.setIfInBounds_toArray, List.set_cons_zero, List.set_cons_succ])
    refine wpAnyH_take (i := 6) (v := ?_) rfl (by kernel_rfl) (by kernel_rfl) (by kernel_rfl) (fun _ _ _ h => h) (Or.inl ⟨by kernel_rfl, ?_⟩) (by assumption) ?_
    rotate_left
    · intro w hSw; obtain ⟨s1, s2⟩ := hSw; go_simp; (try with_reducible rfl)
    (try simp only [Act.put, List.getElem_toArray, List.getElem_cons_succ, List.getElem_cons_zero, List.setIfInBounds_toArray, List.set_cons_zero, List.set_cons_succ])
    refine wpAnyH_take (i := 7) (v := ?_) rfl (by kernel_rfl) (by kernel_rfl) (by kernel_rfl) (fun _ _ _ h => h) (Or.inl ⟨by kernel_rfl, ?_⟩) (by assumption) ?_
    rotate_left
    · intro w hSw; obtain ⟨s1, s2⟩ := hSw; go_simp; (try with_reducible rfl)
    (try simp only [Act.put, List.getElem_toArray, List.getElem_cons_succ, List.getElem_cons_zero, List.setIfInBounds_toArray, List.set_cons_zero, List.set_cons_succ])
    refine wpAnyH_take (i := 9) (v := ?_) rfl (by kernel_rfl) (by kernel_rfl) (by kernel_rfl) (fun _ _ _ h => h) (Or.inl ⟨by kernel_rfl, ?_⟩) (by assumption) ?_
    rotate_left
    · intro w hSw; obtain ⟨s1, s2⟩ := hSw; go_simp; (try with_reducible rfl)
    (try simp only [Act.put, List.getElem_toArray, List.getElem_cons_succ, List.getElem_cons_zero, List.setIfInBounds_toArray, List.set_cons_zero, List.set_cons_succ])
    refine wpAnyH_take (i := 10) (v := ?_) rfl (by kernel_rfl) (by kernel_rfl) (by kernel_rfl) (fun _ _ _ h => h) (Or.inl ⟨by kernel_rfl, ?_⟩) (by assumption) ?_
    rotate_left
    · intro w hSw; obtain ⟨s1, s2⟩ := hSw; go_simp; (try with_reducible rfl)
    (try simp only [Act.put, List.getElem_toArray, List.getElem_cons_succ, List.getElem_cons_zero, List.setIfInBounds_toArray, List.set_cons_zero, List.set_cons_succ])
    refine wpAnyH_take (i := 11) (v := ?_) rfl (by kernel_rfl) (by kernel_rfl) (by kernel_rfl) (fun _ _ _ h => h) (Or.inl ⟨by kernel_rfl, ?_⟩) (by assumption) ?_
    rotate_left
    · intro w hSw; obtain ⟨s1, s2⟩ := hSw; go_simp; (try with_reducible rfl)
    (try simp only [Act.put, List.getElem_toArray, List.getElem_cons_succ, List.getElem_cons_zero, List.setIfInBounds_toArray, List.set_cons_zero, List.set_cons_succ])
    refine wpAnyH_take (i := 12) (v := ?_) rfl (by kernel_rfl) (by kernel_rfl) (by kernel_rfl) (fun _ _ _ h => h) (Or.inl ⟨by kernel_rfl, ?_⟩) (by assumption) ?_
    rotate_left
    · intro w hSw; obtain ⟨s1, s2⟩ := hSw; go_simp; (try with_reducible rfl)
    (try simp only [Act.put, List.getElem_toArray, List.getElem_cons_succ, List.getElem_cons_zero, List.setIfInBounds_toArray, List.set_cons_zero, List.set_cons_succ])
    refine wpAnyH_take (i := 13) (v := ?_) rfl (by kernel_rfl) (by kernel_rfl) (by kernel_rfl) (fun _ _ _ h => h) (Or.inl ⟨by kernel_rfl, ?_⟩) (by assumption) ?_
    rotate_left
    · intro w hSw; obtain ⟨s1, s2⟩ := hSw; go_simp; (try with_reducible rfl)
    (try simp only [Act.put, List.getElem_toArray, List.getElem_cons_succ, List.getElem_cons_zero, List.setIfInBounds_toArray, List.set_cons_zero, List.set_cons_succ])
    refine wpAnyH_take (i := 14) (v := ?_) rfl (by kernel_rfl) (by kernel_rfl) (by kernel_rfl) (fun _ _ _ h => h) (Or.inl ⟨by kernel_rfl, ?_⟩) (by assumption) ?_
    rotate_left
    · intro w hSw; obtain ⟨s1, s2⟩ := hSw; go_simp; (try with_reducible rfl)
    (try simp only [Act.put, List.getElem_toArray, List.getElem_cons_succ, List.getElem_cons_zero, List.setIfInBounds_toArray, List.set_cons_zero, List.set_cons_succ])
    refine wpAnyH_take (i := 15) (v := ?_) rfl (by kernel_rfl) (by kernel_rfl) (by kernel_rfl) (fun _ _ _ h => h) (Or.inl ⟨by kernel_rfl, ?_⟩) (by assumption) ?_
    rotate_left
    · intro w hSw; obtain ⟨s1, s2⟩ := hSw; go_simp; (try with_reducible rfl)
    (try simp only [Act.put, List.getElem_toArray, List.getElem_cons_succ, List.getElem_cons_zero, List.setIfInBounds_toArray, List.set_cons_zero, List.set_cons_succ])
    refine wpAnyH_take (i := 16) (v := ?_) rfl (by kernel_rfl) (by kernel_rfl) (by kernel_rfl) (fun _ _ _ h => h) (Or.inl ⟨by kernel_rfl, ?_⟩) (by assumption) ?_
    rotate_left
    · intro w hSw; obtain ⟨s1, s2⟩ := hSw; go_simp; (try with_reducible rfl)
    (try simp only [Act.put, List.getElem_toArray, List.getElem_cons_succ, List.getElem_cons_zero, List.setIfInBounds_toArray, List.set_cons_zero, List.set_cons_succ])
    refine wpAnyH_take (i := 17) (v := ?_) rfl (by kernel_rfl) (by kernel_rfl) (by kernel_rfl) (fun _ _ _ h => h) (Or.inl ⟨by kernel_rfl, ?_⟩) (by assumption) ?_
    rotate_left
    · intro w hSw; obtain ⟨s1, s2⟩ := hSw; go_simp; (try with_reducible rfl)
    (try simp only [Act.put, List.getElem_toArray, List.getElem_cons_succ, List.getElem_cons_zero, List.setIfInBounds_toArray, List.set_cons_zero, List.set_cons_succ])
    refine wpAnyH_take (i := 18) (v := ?_) rfl (by kernel_rfl) (by kernel_rfl) (by kernel_rfl) (fun _ _ _ h => h) (Or.inl ⟨by kernel_rfl, ?_⟩) (by assumption) ?_
    rotate_left
    · intro w hSw; obtain ⟨s1, s2⟩ := hSw; go_simp; (try with_reducible rfl)
    (try simp only [Act.put, List.getElem_toArray, List.getElem_cons_succ, List.getElem_cons_zero, List.setIfInBounds_toArray, List.set_cons_zero, List.set_cons_succ])
    refine wpAnyH_take (i := 19) (v := ?_) rfl (by kernel_rfl) (by kernel_rfl) (by kernel_rfl) (fun _ _ _ h => h) (Or.inl ⟨by kernel_rfl, ?_⟩) (by assumption) ?_
    rotate_left
    · intro w hSw; obtain ⟨s1, s2⟩ := hSw; go_simp; (try with_reducible rfl)
    (try simp only [Act.put, List.getElem_toArray, List.getElem_cons_succ, List.getElem_cons_zero, List.setIfInBounds_toArray, List.set_cons_zero, List.set_cons_succ])
    have HSE := Lib.hid (of_decide_eq_true HSD.out)
    generalize hZ : IntKind.i64.wrap (IntKind.i64.wrap (IntKind.i64.wrap (IntKind.i64.wrap (4 * (W : Int)) * (H : Int)) + IntKind.i64.wrap (2 * (s.size : Int))) + 20) = Z at hHeld HSE ⊢
    have hsd := HSE.out
    clear hZ HSE
    refine wpAnyH_ready (rs := [8]) (by kernel_rfl) (by simp) ?_
    refine AllReadyH.cons_aye rfl (by kernel_rfl) (fun K hK => ?_) AllReadyH.nil
    go_simp
    refine (steps_at27 (x := y) (g := g) (Blk.drew HK.out.1) HST.out).mono ?_
    rintro e w6 ⟨rfl, rfl⟩
    refine hK.out _ _ (StS.of (Blk.drew HK.out.2.1)) (fun hHeld' => ?_)
    clear hK K hHeld
    have hHeld := hHeld'
    clear hHeld'
    (try simp only [Act.put, List.getElem_toArray, List.getElem_cons_succ, List.getElem_cons_zero, List.setIfInBounds_toArray, List.set_cons_zero, List.set_cons_succ])
    refine wpAnyH_take (i := 20) (v := ?_) rfl (by kernel_rfl) (by kernel_rfl) (by kernel_rfl) (fun _ _ _ h => h) (Or.inl ⟨by kernel_rfl, ?_⟩) (by assumption) ?_
    rotate_left
    · intro w hSw; obtain ⟨s1, s2⟩ := hSw; go_simp; (try with_reducible rfl)
    (try simp only [Act.put, List.getElem_toArray, List.getElem_cons_succ, List.getElem_cons_zero, List.setIfInBounds_toArray, List.set_cons_zero, List.set_cons_succ])
    refine wpAnyH_take (i := 21) (v := ?_) rfl (by kernel_rfl) (by kernel_rfl) (by kernel_rfl) (fun _ _ _ h => h) (Or.inl ⟨by kernel_rfl, ?_⟩) (by assumption) ?_
    rotate_left
    · intro w hSw; obtain ⟨s1, s2⟩ := hSw; go_simp; (try with_reducible rfl)
    (try simp only [Act.put, List.getElem_toArray, List.getElem_cons_succ, List.getElem_cons_zero, List.setIfInBounds_toArray, List.set_cons_zero, List.set_cons_succ])
    refine wpAnyH_take (i := 22) (v := ?_) rfl (by kernel_rfl) (by kernel_rfl) (by kernel_rfl) (fun _ _ _ h => h) (Or.inl ⟨by kernel_rfl, ?_⟩) (by assumption) ?_
    rotate_left
    · intro w hSw; obtain ⟨s1, s2⟩ := hSw; go_simp; (try with_reducible rfl)
    (try simp only [Act.put, List.getElem_toArray, List.getElem_cons_succ, List.getElem_cons_zero, List.setIfInBounds_toArray, List.set_cons_zero, List.set_cons_succ])
    refine wpAnyH_ready (rs := [23]) (by kernel_rfl) (by simp) ?_
    refine AllReadyH.cons_aye rfl (by kernel_rfl) (fun K hK => ?_) AllReadyH.nil
    go_simp
    refine (awake14_any _).mono ?_
    rintro e w9 ⟨rfl, b9⟩
    refine hK.out _ _ (StS.of (Blk.below (Blk.drew HK.out.2.1) b9 (Blk.lt HK.out.2.1))) (fun hHeld' => ?_)
    clear hK K hHeld
    have hHeld := hHeld'
    clear hHeld'
    (try simp only [Act.put, List.getElem_toArray, List.getElem_cons_succ, List.getElem_cons_zero, List.setIfInBounds_toArray, List.set_cons_zero, List.set_cons_succ])
    refine wpAnyH_take (i := 24) (v := ?_) rfl (by kernel_rfl) (by kernel_rfl) (by kernel_rfl) (fun _ _ _ h => h) (Or.inl ⟨by kernel_rfl, ?_⟩) (by assumption) ?_
    rotate_left
    · intro w hSw; obtain ⟨s1, s2⟩ := hSw; go_simp; (try with_reducible rfl)
    (try simp only [Act.put, List.getElem_toArray, List.getElem_cons_succ, List.getElem_cons_zero, List.setIfInBounds_toArray, List.set_cons_zero, List.set_cons_succ])
    refine wpAnyH_take (i := 25) (v := ?_) rfl (by kernel_rfl) (by kernel_rfl) (by kernel_rfl) (fun _ _ _ h => h) (Or.inl ⟨by kernel_rfl, ?_⟩) (by assumption) ?_
    rotate_left
    · intro w hSw; obtain ⟨s1, s2⟩ := hSw; go_simp; (try with_reducible rfl)
    (try simp only [Act.put, List.getElem_toArray, List.getElem_cons_succ, List.getElem_cons_zero, List.setIfInBounds_toArray, List.set_cons_zero, List.set_cons_succ])
    refine wpAnyH_done (by kernel_rfl) ?_ _
    (try simp only [List.getElem_toArray, List.getElem_cons_succ, List.getElem_cons_zero, List.set_cons_zero, List.set_cons_succ])
    go_wp2_with fail
    go_ret
    exact ⟨rfl, below_next HK.out.2.2.drew b9⟩
  · clear ht
    have L4 : LedAt ((w3.alloc (.cells #[.int .i64 (W' : Int), .int .i64 (H' : Int), .slice (some ⟨cc, 0, none⟩) l.length l.length] 32)).alloc (.cells #[.int .i64 0, .int .i64 0, .int .i64 0] 34)) g y := Blk.alloc (Blk.alloc l3 _) _
    have B4 : Below w.heap.size w ((w3.alloc (.cells #[.int .i64 (W' : Int), .int .i64 (H' : Int), .slice (some ⟨cc, 0, none⟩) l.length l.length] 32)).alloc (.cells #[.int .i64 0, .int .i64 0, .int .i64 0] 34)) := (B3.alloc B3.size _).alloc (by have := B3.size; simp; omega) _
    have D4 : Blk ((w3.alloc (.cells #[.int .i64 (W' : Int), .int .i64 (H' : Int), .slice (some ⟨cc, 0, none⟩) l.length l.length] 32)).alloc (.cells #[.int .i64 0, .int .i64 0, .int .i64 0] 34)) q2 24 #[.int .i64 (K : Int), .int .i64 (W : Int), .int .i64 (H : Int), .int .i64 (M : Int), .int .i64 (n : Int), .int .i64 0, .int .i64 0] := Blk.alloc (Blk.alloc D3 _) _
    clear l3 B3 D3
    generalize (w3.alloc (.cells #[.int .i64 (W' : Int), .int .i64 (H' : Int), .slice (some ⟨cc, 0, none⟩) l.length l.length] 32)).alloc (.cells #[.int .i64 0, .int .i64 0, .int .i64 0] 34) = w4 at L4 B4 D4 ⊢
    have HK := Lib.hid (And.intro L4 (And.intro D4 B4))
    clear L4 D4 B4
    go_upto_region 7 with fail
    refine wp_region_held_drew (S := StS q2 (W : Int) (H : Int)) (by kernel_rfl) (StS.of (Blk.drew HK.out.2.1)) (fun hHeld => ?_)
    refine wpAnyH_take (i := 0) (v := ?_) rfl (by kernel_rfl) (by kernel_rfl) (by kernel_rfl) (fun _ _ _ h => h) (Or.inl ⟨by kernel_rfl, ?_⟩) (by assumption) ?_
    rotate_left
    · intro w hSw; obtain ⟨s1, s2⟩ := hSw; go_simp; (try with_reducible rfl)
    (try simp only [Act.put, List.getElem_toArray, List.getElem_cons_succ, List.getElem_cons_zero, List.setIfInBounds_toArray, List.set_cons_zero, List.set_cons_succ])
    refine wpAnyH_take (i := 1) (v := ?_) rfl (by kernel_rfl) (by kernel_rfl) (by kernel_rfl) (fun _ _ _ h => h) (Or.inl ⟨by kernel_rfl, ?_⟩) (by assumption) ?_
    rotate_left
    · intro w hSw; obtain ⟨s1, s2⟩ := hSw; go_simp; (try with_reducible rfl)
    (try simp only [Act.put, List.getElem_toArray, List.getElem_cons_succ, List.getElem_cons_zero, List.setIfInBounds_toArray, List.set_cons_zero, List.set_cons_succ])
    refine wpAnyH_take (i := 2) (v := ?_) rfl (by kernel_rfl) (by kernel_rfl) (by kernel_rfl) (fun _ _ _ h => h) (Or.inl ⟨by kernel_rfl, ?_⟩) (by assumption) ?_
    rotate_left
    · intro w hSw; obtain ⟨s1, s2⟩ := hSw; go_simp; (try with_reducible rfl)
    (try simp only [Act.put, List.getElem_toArray, List.getElem_cons_succ, List.getElem_cons_zero, List.setIfInBounds_toArray, List.set_cons_zero, List.set_cons_succ])
    refine wpAnyH_ready (rs := [3]) (by kernel_rfl) (by simp) ?_
    refine AllReadyH.cons_aye rfl (by kernel_rfl) (fun K hK => ?_) AllReadyH.nil
    go_simp
    refine (broken_at (x := y) (g := g) (Blk.drew HK.out.1) HRB.out).mono ?_
    rintro e w7 ⟨rfl, rfl⟩
    refine hK.out _ _ (StS.of (Blk.drew HK.out.2.1)) (fun hHeld' => ?_)
    clear hK K hHeld
    have hHeld := hHeld'
    clear hHeld'
    (try simp only [Act.put, List.getElem_toArray, List.getElem_cons_succ, List.getElem_cons_zero, List.setIfInBounds_toArray, List.set_cons_zero, List.set_cons_succ])
    refine wpAnyH_take (i := 4) (v := ?_) rfl (by kernel_rfl) (by kernel_rfl) (by kernel_rfl) (fun _ _ _ h => h) (Or.inl ⟨by kernel_rfl, ?_⟩) (by assumption) ?_
    rotate_left
    · intro w hSw; obtain ⟨s1, s2⟩ := hSw; go_simp; (try with_reducible rfl)
    (try simp only [Act.put, List.getElem_toArray, List.getElem_cons_succ, List.getElem_cons_zero, List.setIfInBounds_toArray, List.set_cons_zero, List.set_cons_succ])
    refine wpAnyH_take (i := 5) (v := ?_) rfl (by kernel_rfl) (by kernel_rfl) (by kernel_rfl) (fun _ _ _ h => h) (Or.inl ⟨by kernel_rfl, ?_⟩) (by assumption) ?_
    rotate_left
    · intro w hSw; obtain ⟨s1, s2⟩ := hSw; go_simp; (try with_reducible rfl)
    (try simp only [Act.put, List.getElem_toArray, List.getElem_cons_succ, List.getElem_cons_zero, List.setIfInBounds_toArray, List.set_cons_zero, List.set_cons_succ])
    refine wpAnyH_take (i := 6) (v := ?_) rfl (by kernel_rfl) (by kernel_rfl) (by kernel_rfl) (fun _ _ _ h => h) (Or.inl ⟨by kernel_rfl, ?_⟩) (by assumption) ?_
    rotate_left
    · intro w hSw; obtain ⟨s1, s2⟩ := hSw; go_simp; (try with_reducible rfl)
    (try simp only [Act.put, List.getElem_toArray, List.getElem_cons_succ, List.getElem_cons_zero, List.setIfInBounds_toArray, List.set_cons_zero, List.set_cons_succ])
    refine wpAnyH_take (i := 7) (v := ?_) rfl (by kernel_rfl) (by kernel_rfl) (by kernel_rfl) (fun _ _ _ h => h) (Or.inl ⟨by kernel_rfl, ?_⟩) (by assumption) ?_
    rotate_left
    · intro w hSw; obtain ⟨s1, s2⟩ := hSw; go_simp; (try with_reducible rfl)
    (try simp only [Act.put, List.getElem_toArray, List.getElem_cons_succ, List.getElem_cons_zero, List.setIfInBounds_toArray, List.set_cons_zero, List.set_cons_succ])
    refine wpAnyH_take (i := 9) (v := ?_) rfl (by kernel_rfl) (by kernel_rfl) (by kernel_rfl) (fun _ _ _ h => h) (Or.inl ⟨by kernel_rfl, ?_⟩) (by assumption) ?_
    rotate_left
    · intro w hSw; obtain ⟨s1, s2⟩ := hSw; go_simp; (try with_reducible rfl)
    (try simp only [Act.put, List.getElem_toArray, List.getElem_cons_succ, List.getElem_cons_zero, List.setIfInBounds_toArray, List.set_cons_zero, List.set_cons_succ])
    refine wpAnyH_take (i := 10) (v := ?_) rfl (by kernel_rfl) (by kernel_rfl) (by kernel_rfl) (fun _ _ _ h => h) (Or.inl ⟨by kernel_rfl, ?_⟩) (by assumption) ?_
    rotate_left
    · intro w hSw; obtain ⟨s1, s2⟩ := hSw; go_simp; (try with_reducible rfl)
    (try simp only [Act.put, List.getElem_toArray, List.getElem_cons_succ, List.getElem_cons_zero, List.setIfInBounds_toArray, List.set_cons_zero, List.set_cons_succ])
    refine wpAnyH_take (i := 11) (v := ?_) rfl (by kernel_rfl) (by kernel_rfl) (by kernel_rfl) (fun _ _ _ h => h) (Or.inl ⟨by kernel_rfl, ?_⟩) (by assumption) ?_
    rotate_left
    · intro w hSw; obtain ⟨s1, s2⟩ := hSw; go_simp; (try with_reducible rfl)
    (try simp only [Act.put, List.getElem_toArray, List.getElem_cons_succ, List.getElem_cons_zero, List.setIfInBounds_toArray, List.set_cons_zero, List.set_cons_succ])
    refine wpAnyH_take (i := 12) (v := ?_) rfl (by kernel_rfl) (by kernel_rfl) (by kernel_rfl) (fun _ _ _ h => h) (Or.inl ⟨by kernel_rfl, ?_⟩) (by assumption) ?_
    rotate_left
    · intro w hSw; obtain ⟨s1, s2⟩ := hSw; go_simp; (try with_reducible rfl)
    (try simp only [Act.put, List.getElem_toArray, List.getElem_cons_succ, List.getElem_cons_zero, List.setIfInBounds_toArray, List.set_cons_zero, List.set_cons_succ])
    refine wpAnyH_take (i := 13) (v := ?_) rfl (by kernel_rfl) (by kernel_rfl) (by kernel_rfl) (fun _ _ _ h => h) (Or.inl ⟨by kernel_rfl, ?_⟩) (by assumption) ?_
    rotate_left
    · intro w hSw; obtain ⟨s1, s2⟩ := hSw; go_simp; (try with_reducible rfl)
    (try simp only [Act.put, List.getElem_toArray, List.getElem_cons_succ, List.getElem_cons_zero, List.setIfInBounds_toArray, List.set_cons_zero, List.set_cons_succ])
    refine wpAnyH_take (i := 14) (v := ?_) rfl (by kernel_rfl) (by kernel_rfl) (by kernel_rfl) (fun _ _ _ h => h) (Or.inl ⟨by kernel_rfl, ?_⟩) (by assumption) ?_
    rotate_left
    · intro w hSw; obtain ⟨s1, s2⟩ := hSw; go_simp; (try with_reducible rfl)
    (try simp only [Act.put, List.getElem_toArray, List.getElem_cons_succ, List.getElem_cons_zero, List.setIfInBounds_toArray, List.set_cons_zero, List.set_cons_succ])
    refine wpAnyH_take (i := 15) (v := ?_) rfl (by kernel_rfl) (by kernel_rfl) (by kernel_rfl) (fun _ _ _ h => h) (Or.inl ⟨by kernel_rfl, ?_⟩) (by assumption) ?_
    rotate_left
    · intro w hSw; obtain ⟨s1, s2⟩ := hSw; go_simp; (try with_reducible rfl)
    (try simp only [Act.put, List.getElem_toArray, List.getElem_cons_succ, List.getElem_cons_zero, List.setIfInBounds_toArray, List.set_cons_zero, List.set_cons_succ])
    refine wpAnyH_take (i := 16) (v := ?_) rfl (by kernel_rfl) (by kernel_rfl) (by kernel_rfl) (fun _ _ _ h => h) (Or.inl ⟨by kernel_rfl, ?_⟩) (by assumption) ?_
    rotate_left
    · intro w hSw; obtain ⟨s1, s2⟩ := hSw; go_simp; (try with_reducible rfl)
    (try simp only [Act.put, List.getElem_toArray, List.getElem_cons_succ, List.getElem_cons_zero, List.setIfInBounds_toArray, List.set_cons_zero, List.set_cons_succ])
    refine wpAnyH_take (i := 17) (v := ?_) rfl (by kernel_rfl) (by kernel_rfl) (by kernel_rfl) (fun _ _ _ h => h) (Or.inl ⟨by kernel_rfl, ?_⟩) (by assumption) ?_
    rotate_left
    · intro w hSw; obtain ⟨s1, s2⟩ := hSw; go_simp; (try with_reducible rfl)
    (try simp only [Act.put, List.getElem_toArray, List.getElem_cons_succ, List.getElem_cons_zero, List.setIfInBounds_toArray, List.set_cons_zero, List.set_cons_succ])
    refine wpAnyH_take (i := 18) (v := ?_) rfl (by kernel_rfl) (by kernel_rfl) (by kernel_rfl) (fun _ _ _ h => h) (Or.inl ⟨by kernel_rfl, ?_⟩) (by assumption) ?_
    rotate_left
    · intro w hSw; obtain ⟨s1, s2⟩ := hSw; go_simp; (try with_reducible rfl)
    (try simp only [Act.put, List.getElem_toArray, List.getElem_cons_succ, List.getElem_cons_zero, List.setIfInBounds_toArray, List.set_cons_zero, List.set_cons_succ])
    refine wpAnyH_take (i := 19) (v := ?_) rfl (by kernel_rfl) (by kernel_rfl) (by kernel_rfl) (fun _ _ _ h => h) (Or.inl ⟨by kernel_rfl, ?_⟩) (by assumption) ?_
    rotate_left
    · intro w hSw; obtain ⟨s1, s2⟩ := hSw; go_simp; (try with_reducible rfl)
    (try simp only [Act.put, List.getElem_toArray, List.getElem_cons_succ, List.getElem_cons_zero, List.setIfInBounds_toArray, List.set_cons_zero, List.set_cons_succ])
    have HSE := Lib.hid (of_decide_eq_true HSD.out)
    generalize hZ : IntKind.i64.wrap (IntKind.i64.wrap (IntKind.i64.wrap (IntKind.i64.wrap (4 * (W : Int)) * (H : Int)) + IntKind.i64.wrap (2 * (s.size : Int))) + 20) = Z at hHeld HSE ⊢
    have hsd := HSE.out
    clear hZ HSE
    refine wpAnyH_ready (rs := [8]) (by kernel_rfl) (by simp) ?_
    refine AllReadyH.cons_aye rfl (by kernel_rfl) (fun K hK => ?_) AllReadyH.nil
    go_simp
    refine (steps_at27 (x := y) (g := g) (Blk.drew HK.out.1) HST.out).mono ?_
    rintro e w6 ⟨rfl, rfl⟩
    refine hK.out _ _ (StS.of (Blk.drew HK.out.2.1)) (fun hHeld' => ?_)
    clear hK K hHeld
    have hHeld := hHeld'
    clear hHeld'
    (try simp only [Act.put, List.getElem_toArray, List.getElem_cons_succ, List.getElem_cons_zero, List.setIfInBounds_toArray, List.set_cons_zero, List.set_cons_succ])
    refine wpAnyH_take (i := 20) (v := ?_) rfl (by kernel_rfl) (by kernel_rfl) (by kernel_rfl) (fun _ _ _ h => h) (Or.inl ⟨by kernel_rfl, ?_⟩) (by assumption) ?_
    rotate_left
    · intro w hSw; obtain ⟨s1, s2⟩ := hSw; go_simp; (try with_reducible rfl)
    (try simp only [Act.put, List.getElem_toArray, List.getElem_cons_succ, List.getElem_cons_zero, List.setIfInBounds_toArray, List.set_cons_zero, List.set_cons_succ])
    refine wpAnyH_take (i := 21) (v := ?_) rfl (by kernel_rfl) (by kernel_rfl) (by kernel_rfl) (fun _ _ _ h => h) (Or.inl ⟨by kernel_rfl, ?_⟩) (by assumption) ?_
    rotate_left
    · intro w hSw; obtain ⟨s1, s2⟩ := hSw; go_simp; (try with_reducible rfl)
    (try simp only [Act.put, List.getElem_toArray, List.getElem_cons_succ, List.getElem_cons_zero, List.setIfInBounds_toArray, List.set_cons_zero, List.set_cons_succ])
    refine wpAnyH_take (i := 22) (v := ?_) rfl (by kernel_rfl) (by kernel_rfl) (by kernel_rfl) (fun _ _ _ h => h) (Or.inl ⟨by kernel_rfl, ?_⟩) (by assumption) ?_
    rotate_left
    · intro w hSw; obtain ⟨s1, s2⟩ := hSw; go_simp; (try with_reducible rfl)
    (try simp only [Act.put, List.getElem_toArray, List.getElem_cons_succ, List.getElem_cons_zero, List.setIfInBounds_toArray, List.set_cons_zero, List.set_cons_succ])
    refine wpAnyH_ready (rs := [23]) (by kernel_rfl) (by simp) ?_
    refine AllReadyH.cons_aye rfl (by kernel_rfl) (fun K hK => ?_) AllReadyH.nil
    go_simp
    refine (awake14_any _).mono ?_
    rintro e w9 ⟨rfl, b9⟩
    refine hK.out _ _ (StS.of (Blk.below (Blk.drew HK.out.2.1) b9 (Blk.lt HK.out.2.1))) (fun hHeld' => ?_)
    clear hK K hHeld
    have hHeld := hHeld'
    clear hHeld'
    (try simp only [Act.put, List.getElem_toArray, List.getElem_cons_succ, List.getElem_cons_zero, List.setIfInBounds_toArray, List.set_cons_zero, List.set_cons_succ])
    refine wpAnyH_take (i := 24) (v := ?_) rfl (by kernel_rfl) (by kernel_rfl) (by kernel_rfl) (fun _ _ _ h => h) (Or.inl ⟨by kernel_rfl, ?_⟩) (by assumption) ?_
    rotate_left
    · intro w hSw; obtain ⟨s1, s2⟩ := hSw; go_simp; (try with_reducible rfl)
    (try simp only [Act.put, List.getElem_toArray, List.getElem_cons_succ, List.getElem_cons_zero, List.setIfInBounds_toArray, List.set_cons_zero, List.set_cons_succ])
    refine wpAnyH_take (i := 25) (v := ?_) rfl (by kernel_rfl) (by kernel_rfl) (by kernel_rfl) (fun _ _ _ h => h) (Or.inl ⟨by kernel_rfl, ?_⟩) (by assumption) ?_
    rotate_left
    · intro w hSw; obtain ⟨s1, s2⟩ := hSw; go_simp; (try with_reducible rfl)
    (try simp only [Act.put, List.getElem_toArray, List.getElem_cons_succ, List.getElem_cons_zero, List.setIfInBounds_toArray, List.set_cons_zero, List.set_cons_succ])
    refine wpAnyH_done (by kernel_rfl) ?_ _
    (try simp only [List.getElem_toArray, List.getElem_cons_succ, List.getElem_cons_zero, List.set_cons_zero, List.set_cons_succ])
    go_wp2_with fail
    go_ret
    exact ⟨rfl, below_next HK.out.2.2.drew b9⟩
theorem pnmrawSteps_said (w : World) (s : ByteArray) (hs : s.size ≤ maxLen) :
    Calls Tryz.prog 5 #[.string s] w fun e w' => e = .returned (.bool true) ∧ Below w.heap.size w w' := by
  clear hs
  by_cases h : s.size ≤ 600
  · obtain ⟨r, hr⟩ : ∃ r, headAt (nats s) = r := ⟨_, rfl⟩
    have hok := headOk_of (s := s)
    rw [hr] at hok
    obtain ⟨K, W, H, M, n, kd, pl⟩ := r
    by_cases h0 : kd = 0
    · by_cases h1 : ¬ K ≤ 3
      · by_cases h2 : W ≤ 100
        · by_cases h3 : H ≤ 100
          · have hh := hok h0
            have hp : pl = 0 := by
              have hg := headAt_good (nats s)
              rw [hr] at hg
              rcases hg with ⟨kd', pl', e, hk, _⟩ | ⟨K', W', H', M', n', e, _⟩
              · exact absurd ((congrArg HeadR.Kind e).symm.trans h0) hk
              · exact congrArg HeadR.Place e
            subst h0 hp
            exact pnmrawSteps_in h hh h1 h2 h3 w
          · exact pnmrawSteps_no h hr (.inr ⟨h0, .inr ⟨by omega, .inr ⟨h2, by omega⟩⟩⟩) w
        · exact pnmrawSteps_no h hr (.inr ⟨h0, .inr ⟨by omega, .inl (by omega)⟩⟩) w
      · exact pnmrawSteps_no h hr (.inr ⟨h0, .inl (by omega)⟩) w
    · exact pnmrawSteps_no h hr (.inl h0) w
  · have i1 : (600 : Int) < (s.size : Int) := by omega
    go_enter Tryz.func5, Tryz.ntmps5
    go_wp2_with (go_at_call 14; refine (awake14_any _).mono ?_; rintro e w9 ⟨rfl, b9⟩)
    go_ret
    exact ⟨rfl, b9⟩
end Go.Proofs.YtgmgcfjllijhgaaGreat
