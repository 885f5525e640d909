/- fault: the law FaultTexts. -/
import Derived.Test.YtakhobmoalfaoaaDoorFltG
namespace Go.Proofs.YtakhobmoalfaoaaDoor
open Go.RowKit
set_option linter.unusedVariables false
set_option linter.unusedSimpArgs false

theorem dec_len : ∀ (m n : Nat), n < 10 ^ (m + 1) → (Lib.decDigits n).length ≤ m + 1 := by
  intro m
  induction m with
  | zero => intro n h; rw [Lib.decDigits, dif_pos (by simpa using h)]; simp
  | succ m ih =>
    intro n h
    rw [Lib.decDigits]
    split
    · simp
    · rw [List.length_append, List.length_singleton]
      have := ih (n / 10) (by rw [Nat.pow_succ] at h; omega)
      omega
theorem ftext_size {k f : Int} {n : Nat} (hn : n ≤ 4611686018427387904) : (ftext k f n).size ≤ 100 := by
  have h1 := kWord_size k
  have h2 := fWord_size f
  have h3 := dec_len 18 n (by omega)
  have h4 : (dec n).size = (Lib.decDigits n).length := by unfold dec; exact arrSize _
  have h5 : (⟨#[32]⟩ : ByteArray).size = 1 := rfl
  unfold ftext
  rw [ByteArray.size_append, ByteArray.size_append, ByteArray.size_append, ByteArray.size_append]
  omega
def tAll3 : ByteArray := ⟨#[109, 97, 108, 102, 111, 114, 109, 101, 100, 32, 98, 109, 112, 32, 49, 52]⟩
theorem awake3 {w : World} (hL : LibW w) : Calls Tryd.prog 12 #[] w fun e w' => e = .returned (.bool true) ∧ Below w.heap.size w w' := by
  have HT0 := textC (k := 2) (f := 1) (n := 14) hL (by unfold FRight; omega)
  have he : ftext 2 1 14 = tAll3 := by apply bytes_ext; rw [ftext_list, Lib.decDigits, dif_neg (by decide), Lib.decDigits, dif_pos (by decide)]; rfl
  rw [he] at HT0
  have HT := Lib.hid (show Calls Tryd.prog 5 #[.agg #[.int .i64 2, .int .i64 1, .int .i64 14]] w _ from HT0)
  have h1 : (tAll3.toList == [109, 97, 108, 102, 111, 114, 109, 101, 100, 32, 98, 109, 112, 32, 49, 52]) = true := by rw [ByteArray.toList_eq]; decide
  have h2 : tAll3.toList = [109, 97, 108, 102, 111, 114, 109, 101, 100, 32, 98, 109, 112, 32, 49, 52] := by rw [ByteArray.toList_eq]; rfl
  generalize tAll3 = q at h1 h2 HT
  clear he HT0 hL
  go_enter Tryd.func12, Tryd.ntmps12
  go_wp2_with (go_at_call 5; refine HT.out.mono ?_; rintro e w1 ⟨rfl, b1⟩)
  go_ret
  exact ⟨rfl, b1⟩
set_option maxRecDepth 100000 in
set_option maxHeartbeats 4000000 in
theorem faultTexts_no {k f a : Int} {w : World} (hL : LibW w) (hR : ¬ FRight k f a) : Calls Tryd.prog 3 #[.agg #[.int .i64 k, .int .i64 f, .int .i64 a]] w fun e w' => e = .returned (.bool true) ∧ Below w.heap.size w w' := by
  have HT := Lib.hid (fun w => textC_no (w := w) hR)
  have HR0 := rightC k f a
  have HRR0 := refRightC k f a
  rw [decide_eq_false hR] at HR0 HRR0
  have HR := Lib.hid HR0
  have HRR := Lib.hid HRR0
  have HK := Lib.hid (kindC k)
  have HF := Lib.hid (formatC f)
  have HRK := Lib.hid (refKindC k)
  have HRF := Lib.hid (refFormatC f)
  have HAW := Lib.hid (fun w (h : LibW w) => awake3 (w := w) h)
  generalize wordOf kWords k = wk at HK HRK
  generalize wordOf fWords f = wf at HF HRF
  have B0 : Below w.heap.size w (w.alloc (.cells #[.int .i64 k, .int .i64 f, .int .i64 a] 23)) := (Below.refl _ _).alloc (Nat.le_refl _) _
  have X0 : Blk (w.alloc (.cells #[.int .i64 k, .int .i64 f, .int .i64 a] 23)) w.heap.size 23 #[.int .i64 k, .int .i64 f, .int .i64 a] := Blk.new _ _ _
  have HW := Lib.hid (And.intro (hL.below B0) (And.intro X0 B0))
  clear HR0 HRR0 hR hL B0 X0
  go_enter Tryd.func3, Tryd.ntmps3
  go_upto_region 2 with (go_at_call 5; refine (HT.out _).mono ?_; rintro e w1 ⟨rfl, b1⟩; have X1 := Blk.below HW.out.2.1 b1 (Blk.lt HW.out.2.1); have B1 := below_next HW.out.2.2 b1; have L1 := HW.out.1.below b1)
  refine wp_region_held_drew (S := (fun wx => wx.cell? ⟨w.heap.size, 0, none⟩ = some (.int .i64 k) ∧ wx.cell? ⟨w.heap.size, 1, none⟩ = some (.int .i64 f) ∧ wx.cell? ⟨w.heap.size, 2, none⟩ = some (.int .i64 a))) (by kernel_rfl) ⟨Blk.cell X1 0, Blk.cell X1 1, Blk.cell X1 2⟩ (fun hHeld => ?_)
  refine wpAnyH_take (i := 0) (v := ?_) rfl (by kernel_rfl) (by kernel_rfl) (by kernel_rfl) (fun _ _ _ h => h) (Or.inl ⟨by kernel_rfl, ?_⟩) (by assumption) ?_
  rotate_left
  · intro w hSw; obtain ⟨s0, s1, s2⟩ := hSw; go_simp; (try with_reducible rfl)
  (try simp only [Act.put, List.setIfInBounds_toArray, List.set_cons_zero, List.set_cons_succ])
  refine wpAnyH_take (i := 2) (v := ?_) rfl (by kernel_rfl) (by kernel_rfl) (by kernel_rfl) (fun _ _ _ h => h) (Or.inl ⟨by kernel_rfl, ?_⟩) (by assumption) ?_
  rotate_left
  · intro w hSw; obtain ⟨s0, s1, s2⟩ := hSw; go_simp; (try with_reducible rfl)
  (try simp only [Act.put, List.setIfInBounds_toArray, List.set_cons_zero, List.set_cons_succ])
  refine wpAnyH_take (i := 3) (v := ?_) rfl (by kernel_rfl) (by kernel_rfl) (by kernel_rfl) (fun _ _ _ h => h) (Or.inl ⟨by kernel_rfl, ?_⟩) (by assumption) ?_
  rotate_left
  · intro w hSw; obtain ⟨s0, s1, s2⟩ := hSw; go_simp; (try with_reducible rfl)
  (try simp only [Act.put, List.setIfInBounds_toArray, List.set_cons_zero, List.set_cons_succ])
  refine wpAnyH_take (i := 4) (v := ?_) rfl (by kernel_rfl) (by kernel_rfl) (by kernel_rfl) (fun _ _ _ h => h) (Or.inl ⟨by kernel_rfl, ?_⟩) (by assumption) ?_
  rotate_left
  · intro w hSw; obtain ⟨s0, s1, s2⟩ := hSw; go_simp; (try with_reducible rfl)
  (try simp only [Act.put, List.setIfInBounds_toArray, List.set_cons_zero, List.set_cons_succ])
  refine wpAnyH_take (i := 5) (v := ?_) rfl (by kernel_rfl) (by kernel_rfl) (by kernel_rfl) (fun _ _ _ h => h) (Or.inl ⟨by kernel_rfl, ?_⟩) (by assumption) ?_
  rotate_left
  · intro w hSw; obtain ⟨s0, s1, s2⟩ := hSw; go_simp; (try with_reducible rfl)
  (try simp only [Act.put, List.setIfInBounds_toArray, List.set_cons_zero, List.set_cons_succ])
  refine wpAnyH_take (i := 6) (v := ?_) rfl (by kernel_rfl) (by kernel_rfl) (by kernel_rfl) (fun _ _ _ h => h) (Or.inl ⟨by kernel_rfl, ?_⟩) (by assumption) ?_
  rotate_left
  · intro w hSw; obtain ⟨s0, s1, s2⟩ := hSw; go_simp; (try with_reducible rfl)
  (try simp only [Act.put, List.setIfInBounds_toArray, List.set_cons_zero, List.set_cons_succ])
  refine wpAnyH_take (i := 7) (v := ?_) rfl (by kernel_rfl) (by kernel_rfl) (by kernel_rfl) (fun _ _ _ h => h) (Or.inl ⟨by kernel_rfl, ?_⟩) (by assumption) ?_
  rotate_left
  · intro w hSw; obtain ⟨s0, s1, s2⟩ := hSw; go_simp; (try with_reducible rfl)
  (try simp only [Act.put, List.setIfInBounds_toArray, List.set_cons_zero, List.set_cons_succ])
  refine wpAnyH_ready (rs := [1]) (by kernel_rfl) (by simp) ?_
  refine AllReadyH.cons rfl (fun K hK => ?_) AllReadyH.nil
  go_simp
  refine (HR.out _).mono ?_
  rintro e w2 ⟨rfl, b2⟩
  have X2 := Blk.below (Blk.drew X1) b2 (Blk.lt X1)
  have B2 := below_next B1.drew b2
  have L2 := (L1.below (Below.refl _ _).drew).below b2
  refine hK.out _ _ ⟨Blk.cell X2 0, Blk.cell X2 1, Blk.cell X2 2⟩ (fun hHeld' => ?_)
  clear hK K hHeld
  have hHeld := hHeld'
  clear hHeld'
  (try simp only [Act.put, List.setIfInBounds_toArray, List.set_cons_zero, List.set_cons_succ])
  refine wpAnyH_ready (rs := [8]) (by kernel_rfl) (by simp) ?_
  refine AllReadyH.cons rfl (fun K hK => ?_) AllReadyH.nil
  go_simp
  refine (HRR.out _).mono ?_
  rintro e w' ⟨rfl, rfl⟩
  refine hK.out _ _ ⟨Blk.cell X2 0, Blk.cell X2 1, Blk.cell X2 2⟩ (fun hHeld' => ?_)
  clear hK K hHeld
  have hHeld := hHeld'
  clear hHeld'
  (try simp only [Act.put, List.setIfInBounds_toArray, List.set_cons_zero, List.set_cons_succ])
  refine wpAnyH_take (i := 9) (v := ?_) rfl (by kernel_rfl) (by kernel_rfl) (by kernel_rfl) (fun _ _ _ h => h) (Or.inl ⟨by kernel_rfl, ?_⟩) (by assumption) ?_
  rotate_left
  · intro w hSw; obtain ⟨s0, s1, s2⟩ := hSw; go_simp; (try with_reducible rfl)
  (try simp only [Act.put, List.setIfInBounds_toArray, List.set_cons_zero, List.set_cons_succ])
  refine wpAnyH_take (i := 10) (v := ?_) rfl (by kernel_rfl) (by kernel_rfl) (by kernel_rfl) (fun _ _ _ h => h) (Or.inl ⟨by kernel_rfl, ?_⟩) (by assumption) ?_
  rotate_left
  · intro w hSw; obtain ⟨s0, s1, s2⟩ := hSw; go_simp; (try with_reducible rfl)
  (try simp only [Act.put, List.setIfInBounds_toArray, List.set_cons_zero, List.set_cons_succ])
  refine wpAnyH_take (i := 11) (v := ?_) rfl (by kernel_rfl) (by kernel_rfl) (by kernel_rfl) (fun _ _ _ h => h) (Or.inl ⟨by kernel_rfl, ?_⟩) (by assumption) ?_
  rotate_left
  · intro w hSw; obtain ⟨s0, s1, s2⟩ := hSw; go_simp; (try with_reducible rfl)
  (try simp only [Act.put, List.setIfInBounds_toArray, List.set_cons_zero, List.set_cons_succ])
  refine wpAnyH_take (i := 12) (v := ?_) rfl (by kernel_rfl) (by kernel_rfl) (by kernel_rfl) (fun _ _ _ h => h) (Or.inl ⟨by kernel_rfl, ?_⟩) (by assumption) ?_
  rotate_left
  · intro w hSw; obtain ⟨s0, s1, s2⟩ := hSw; go_simp; (try with_reducible rfl)
  (try simp only [Act.put, List.setIfInBounds_toArray, List.set_cons_zero, List.set_cons_succ])
  refine wpAnyH_take (i := 14) (v := ?_) rfl (by kernel_rfl) (by kernel_rfl) (by kernel_rfl) (fun _ _ _ h => h) (Or.inl ⟨by kernel_rfl, ?_⟩) (by assumption) ?_
  rotate_left
  · intro w hSw; obtain ⟨s0, s1, s2⟩ := hSw; go_simp; (try with_reducible rfl)
  (try simp only [Act.put, List.setIfInBounds_toArray, List.set_cons_zero, List.set_cons_succ])
  refine wpAnyH_take (i := 15) (v := ?_) rfl (by kernel_rfl) (by kernel_rfl) (by kernel_rfl) (fun _ _ _ h => h) (Or.inl ⟨by kernel_rfl, ?_⟩) (by assumption) ?_
  rotate_left
  · intro w hSw; obtain ⟨s0, s1, s2⟩ := hSw; go_simp; (try with_reducible rfl)
  (try simp only [Act.put, List.setIfInBounds_toArray, List.set_cons_zero, List.set_cons_succ])
  refine wpAnyH_ready (rs := [13]) (by kernel_rfl) (by simp) ?_
  refine AllReadyH.cons rfl (fun K hK => ?_) AllReadyH.nil
  go_simp
  refine (HK.out _).mono ?_
  rintro e w' ⟨rfl, rfl⟩
  refine hK.out _ _ ⟨Blk.cell X2 0, Blk.cell X2 1, Blk.cell X2 2⟩ (fun hHeld' => ?_)
  clear hK K hHeld
  have hHeld := hHeld'
  clear hHeld'
  (try simp only [Act.put, List.setIfInBounds_toArray, List.set_cons_zero, List.set_cons_succ])
  refine wpAnyH_ready (rs := [16]) (by kernel_rfl) (by simp) ?_
  refine AllReadyH.cons rfl (fun K hK => ?_) AllReadyH.nil
  go_simp
  refine (HRK.out _).mono ?_
  rintro e w3 ⟨rfl, b3⟩
  have X3 := Blk.below X2 b3 (Blk.lt X2)
  have B3 := below_next B2 b3
  have L3 := L2.below b3
  refine hK.out _ _ ⟨Blk.cell X3 0, Blk.cell X3 1, Blk.cell X3 2⟩ (fun hHeld' => ?_)
  clear hK K hHeld
  have hHeld := hHeld'
  clear hHeld'
  (try simp only [Act.put, List.setIfInBounds_toArray, List.set_cons_zero, List.set_cons_succ])
  refine wpAnyH_take (i := 17) (v := ?_) rfl (by kernel_rfl) (by kernel_rfl) (by kernel_rfl) (fun _ _ _ h => h) (Or.inl ⟨by kernel_rfl, ?_⟩) (by assumption) ?_
  rotate_left
  · intro w hSw; obtain ⟨s0, s1, s2⟩ := hSw; go_simp; (try with_reducible rfl)
  (try simp only [Act.put, List.setIfInBounds_toArray, List.set_cons_zero, List.set_cons_succ])
  refine wpAnyH_take (i := 18) (v := ?_) rfl (by kernel_rfl) (by kernel_rfl) (by kernel_rfl) (fun _ _ _ h => h) (Or.inl ⟨by kernel_rfl, ?_⟩) (by assumption) ?_
  rotate_left
  · intro w hSw; obtain ⟨s0, s1, s2⟩ := hSw; go_simp; (try with_reducible rfl)
  (try simp only [Act.put, List.setIfInBounds_toArray, List.set_cons_zero, List.set_cons_succ])
  refine wpAnyH_take (i := 19) (v := ?_) rfl (by kernel_rfl) (by kernel_rfl) (by kernel_rfl) (fun _ _ _ h => h) (Or.inl ⟨by kernel_rfl, ?_⟩) (by assumption) ?_
  rotate_left
  · intro w hSw; obtain ⟨s0, s1, s2⟩ := hSw; go_simp; (try with_reducible rfl)
  (try simp only [Act.put, List.setIfInBounds_toArray, List.set_cons_zero, List.set_cons_succ])
  refine wpAnyH_take (i := 20) (v := ?_) rfl (by kernel_rfl) (by kernel_rfl) (by kernel_rfl) (fun _ _ _ h => h) (Or.inl ⟨by kernel_rfl, ?_⟩) (by assumption) ?_
  rotate_left
  · intro w hSw; obtain ⟨s0, s1, s2⟩ := hSw; go_simp; (try with_reducible rfl)
  (try simp only [Act.put, List.setIfInBounds_toArray, List.set_cons_zero, List.set_cons_succ])
  refine wpAnyH_take (i := 21) (v := ?_) rfl (by kernel_rfl) (by kernel_rfl) (by kernel_rfl) (fun _ _ _ h => h) (Or.inl ⟨by kernel_rfl, ?_⟩) (by assumption) ?_
  rotate_left
  · intro w hSw; obtain ⟨s0, s1, s2⟩ := hSw; go_simp; (try with_reducible rfl)
  (try simp only [Act.put, List.setIfInBounds_toArray, List.set_cons_zero, List.set_cons_succ])
  refine wpAnyH_take (i := 23) (v := ?_) rfl (by kernel_rfl) (by kernel_rfl) (by kernel_rfl) (fun _ _ _ h => h) (Or.inl ⟨by kernel_rfl, ?_⟩) (by assumption) ?_
  rotate_left
  · intro w hSw; obtain ⟨s0, s1, s2⟩ := hSw; go_simp; (try with_reducible rfl)
  (try simp only [Act.put, List.setIfInBounds_toArray, List.set_cons_zero, List.set_cons_succ])
  refine wpAnyH_take (i := 24) (v := ?_) rfl (by kernel_rfl) (by kernel_rfl) (by kernel_rfl) (fun _ _ _ h => h) (Or.inl ⟨by kernel_rfl, ?_⟩) (by assumption) ?_
  rotate_left
  · intro w hSw; obtain ⟨s0, s1, s2⟩ := hSw; go_simp; (try with_reducible rfl)
  (try simp only [Act.put, List.setIfInBounds_toArray, List.set_cons_zero, List.set_cons_succ])
  refine wpAnyH_ready (rs := [22]) (by kernel_rfl) (by simp) ?_
  refine AllReadyH.cons rfl (fun K hK => ?_) AllReadyH.nil
  go_simp
  refine (HF.out _).mono ?_
  rintro e w' ⟨rfl, rfl⟩
  refine hK.out _ _ ⟨Blk.cell X3 0, Blk.cell X3 1, Blk.cell X3 2⟩ (fun hHeld' => ?_)
  clear hK K hHeld
  have hHeld := hHeld'
  clear hHeld'
  (try simp only [Act.put, List.setIfInBounds_toArray, List.set_cons_zero, List.set_cons_succ])
  refine wpAnyH_ready (rs := [25]) (by kernel_rfl) (by simp) ?_
  refine AllReadyH.cons rfl (fun K hK => ?_) AllReadyH.nil
  go_simp
  refine (HRF.out _).mono ?_
  rintro e w4 ⟨rfl, b4⟩
  have X4 := Blk.below X3 b4 (Blk.lt X3)
  have B4 := below_next B3 b4
  have L4 := L3.below b4
  refine hK.out _ _ ⟨Blk.cell X4 0, Blk.cell X4 1, Blk.cell X4 2⟩ (fun hHeld' => ?_)
  clear hK K hHeld
  have hHeld := hHeld'
  clear hHeld'
  (try simp only [Act.put, List.setIfInBounds_toArray, List.set_cons_zero, List.set_cons_succ])
  refine wpAnyH_take (i := 26) (v := ?_) rfl (by kernel_rfl) (by kernel_rfl) (by kernel_rfl) (fun _ _ _ h => h) (Or.inl ⟨by kernel_rfl, ?_⟩) (by assumption) ?_
  rotate_left
  · intro w hSw; obtain ⟨s0, s1, s2⟩ := hSw; go_simp; (try with_reducible rfl)
  (try simp only [Act.put, List.setIfInBounds_toArray, List.set_cons_zero, List.set_cons_succ])
  refine wpAnyH_take (i := 27) (v := ?_) rfl (by kernel_rfl) (by kernel_rfl) (by kernel_rfl) (fun _ _ _ h => h) (Or.inl ⟨by kernel_rfl, ?_⟩) (by assumption) ?_
  rotate_left
  · intro w hSw; obtain ⟨s0, s1, s2⟩ := hSw; go_simp; (try with_reducible rfl)
  (try simp only [Act.put, List.setIfInBounds_toArray, List.set_cons_zero, List.set_cons_succ])
  refine wpAnyH_done (by kernel_rfl) ?_ _
  (try simp only [List.getElem_toArray, List.getElem_cons_succ, List.getElem_cons_zero, List.set_cons_zero, List.set_cons_succ])
  clear hHeld
  have c0 : w4.cell? ⟨w.heap.size, 0, none⟩ = some (.int .i64 k) := Blk.cell X4 0; have c1 : w4.cell? ⟨w.heap.size, 1, none⟩ = some (.int .i64 f) := Blk.cell X4 1; have c2 : w4.cell? ⟨w.heap.size, 2, none⟩ = some (.int .i64 a) := Blk.cell X4 2; have xl := Blk.lt X4
  obtain ⟨q1, q2⟩ := no_word
  go_wp2_with (first
    | (go_at_call 7; refine (HRR.out _).mono ?_; rintro e w' ⟨rfl, rfl⟩)
    | (go_at_call 12; refine (HAW.out _ L4).mono ?_; rintro e w5 ⟨rfl, b5⟩))
  go_ret
  exact ⟨rfl, below_next B4 b5⟩
set_option maxRecDepth 100000 in
set_option maxHeartbeats 4000000 in
theorem faultTexts_yes {k f a : Int} {w : World} (hL : LibW w) (hR : FRight k f a) : Calls Tryd.prog 3 #[.agg #[.int .i64 k, .int .i64 f, .int .i64 a]] w fun e w' => e = .returned (.bool true) ∧ Below w.heap.size w w' := by
  obtain ⟨k', hk⟩ : ∃ m : Nat, (m : Int) = k := ⟨k.toNat, by unfold FRight at hR; omega⟩
  obtain ⟨f', hf⟩ : ∃ m : Nat, (m : Int) = f := ⟨f.toNat, by unfold FRight at hR; omega⟩
  obtain ⟨n, ha⟩ : ∃ m : Nat, (m : Int) = a := ⟨a.toNat, by unfold FRight at hR; omega⟩
  have hn : n ≤ 4611686018427387904 := by unfold FRight at hR; omega
  have hR' : FRight (k' : Int) (f' : Int) (n : Int) := by rw [hk, hf, ha]; exact hR
  have HT0 := fun w (h : LibW w) => textC (w := w) h hR'
  have HX0 := fun w => refTextC (k := (k' : Int)) (f := (f' : Int)) w hn
  have HP0 := fun w (h : LibW w) => parseC (s := ftext (k' : Int) (f' : Int) n) (by have := ftext_size (k := (k' : Int)) (f := (f' : Int)) hn; omega) h
  rw [parse_text hR'] at HP0
  unfold parseV at HP0
  simp only at HP0
  generalize ftext (k' : Int) (f' : Int) n = T at HT0 HX0 HP0
  rw [hk, hf, ha] at HT0 HX0 HP0
  have HT := Lib.hid HT0
  have HX := Lib.hid HX0
  have HP := Lib.hid HP0
  clear HP0 HT0 HX0 hn hR' hk hf ha
  have HR0 := rightC k f a
  have HRR0 := refRightC k f a
  rw [decide_eq_true hR] at HR0 HRR0
  have HR := Lib.hid HR0
  have HRR := Lib.hid HRR0
  have HK := Lib.hid (kindC k)
  have HF := Lib.hid (formatC f)
  have HRK := Lib.hid (refKindC k)
  have HRF := Lib.hid (refFormatC f)
  have HAW := Lib.hid (fun w (h : LibW w) => awake3 (w := w) h)
  generalize wordOf kWords k = wk at HK HRK
  generalize wordOf fWords f = wf at HF HRF
  have B0 : Below w.heap.size w (w.alloc (.cells #[.int .i64 k, .int .i64 f, .int .i64 a] 23)) := (Below.refl _ _).alloc (Nat.le_refl _) _
  have X0 : Blk (w.alloc (.cells #[.int .i64 k, .int .i64 f, .int .i64 a] 23)) w.heap.size 23 #[.int .i64 k, .int .i64 f, .int .i64 a] := Blk.new _ _ _
  have HW := Lib.hid (And.intro (hL.below B0) (And.intro X0 B0))
  clear HR0 HRR0 hR hL B0 X0
  go_enter Tryd.func3, Tryd.ntmps3
  go_upto_region 2 with (go_at_call 5; refine (HT.out _ HW.out.1).mono ?_; rintro e w1 ⟨rfl, b1⟩; have X1 := Blk.below HW.out.2.1 b1 (Blk.lt HW.out.2.1); have B1 := below_next HW.out.2.2 b1; have L1 := HW.out.1.below b1)
  refine wp_region_held_drew (S := (fun wx => wx.cell? ⟨w.heap.size, 0, none⟩ = some (.int .i64 k) ∧ wx.cell? ⟨w.heap.size, 1, none⟩ = some (.int .i64 f) ∧ wx.cell? ⟨w.heap.size, 2, none⟩ = some (.int .i64 a))) (by kernel_rfl) ⟨Blk.cell X1 0, Blk.cell X1 1, Blk.cell X1 2⟩ (fun hHeld => ?_)
  refine wpAnyH_take (i := 0) (v := ?_) rfl (by kernel_rfl) (by kernel_rfl) (by kernel_rfl) (fun _ _ _ h => h) (Or.inl ⟨by kernel_rfl, ?_⟩) (by assumption) ?_
  rotate_left
  · intro w hSw; obtain ⟨s0, s1, s2⟩ := hSw; go_simp; (try with_reducible rfl)
  (try simp only [Act.put, List.setIfInBounds_toArray, List.set_cons_zero, List.set_cons_succ])
  refine wpAnyH_take (i := 2) (v := ?_) rfl (by kernel_rfl) (by kernel_rfl) (by kernel_rfl) (fun _ _ _ h => h) (Or.inl ⟨by kernel_rfl, ?_⟩) (by assumption) ?_
  rotate_left
  · intro w hSw; obtain ⟨s0, s1, s2⟩ := hSw; go_simp; (try with_reducible rfl)
  (try simp only [Act.put, List.setIfInBounds_toArray, List.set_cons_zero, List.set_cons_succ])
  refine wpAnyH_take (i := 3) (v := ?_) rfl (by kernel_rfl) (by kernel_rfl) (by kernel_rfl) (fun _ _ _ h => h) (Or.inl ⟨by kernel_rfl, ?_⟩) (by assumption) ?_
  rotate_left
  · intro w hSw; obtain ⟨s0, s1, s2⟩ := hSw; go_simp; (try with_reducible rfl)
  (try simp only [Act.put, List.setIfInBounds_toArray, List.set_cons_zero, List.set_cons_succ])
  refine wpAnyH_take (i := 4) (v := ?_) rfl (by kernel_rfl) (by kernel_rfl) (by kernel_rfl) (fun _ _ _ h => h) (Or.inl ⟨by kernel_rfl, ?_⟩) (by assumption) ?_
  rotate_left
  · intro w hSw; obtain ⟨s0, s1, s2⟩ := hSw; go_simp; (try with_reducible rfl)
  (try simp only [Act.put, List.setIfInBounds_toArray, List.set_cons_zero, List.set_cons_succ])
  refine wpAnyH_take (i := 5) (v := ?_) rfl (by kernel_rfl) (by kernel_rfl) (by kernel_rfl) (fun _ _ _ h => h) (Or.inl ⟨by kernel_rfl, ?_⟩) (by assumption) ?_
  rotate_left
  · intro w hSw; obtain ⟨s0, s1, s2⟩ := hSw; go_simp; (try with_reducible rfl)
  (try simp only [Act.put, List.setIfInBounds_toArray, List.set_cons_zero, List.set_cons_succ])
  refine wpAnyH_take (i := 6) (v := ?_) rfl (by kernel_rfl) (by kernel_rfl) (by kernel_rfl) (fun _ _ _ h => h) (Or.inl ⟨by kernel_rfl, ?_⟩) (by assumption) ?_
  rotate_left
  · intro w hSw; obtain ⟨s0, s1, s2⟩ := hSw; go_simp; (try with_reducible rfl)
  (try simp only [Act.put, List.setIfInBounds_toArray, List.set_cons_zero, List.set_cons_succ])
  refine wpAnyH_take (i := 7) (v := ?_) rfl (by kernel_rfl) (by kernel_rfl) (by kernel_rfl) (fun _ _ _ h => h) (Or.inl ⟨by kernel_rfl, ?_⟩) (by assumption) ?_
  rotate_left
  · intro w hSw; obtain ⟨s0, s1, s2⟩ := hSw; go_simp; (try with_reducible rfl)
  (try simp only [Act.put, List.setIfInBounds_toArray, List.set_cons_zero, List.set_cons_succ])
  refine wpAnyH_ready (rs := [1]) (by kernel_rfl) (by simp) ?_
  refine AllReadyH.cons rfl (fun K hK => ?_) AllReadyH.nil
  go_simp
  refine (HR.out _).mono ?_
  rintro e w2 ⟨rfl, b2⟩
  have X2 := Blk.below (Blk.drew X1) b2 (Blk.lt X1)
  have B2 := below_next B1.drew b2
  have L2 := (L1.below (Below.refl _ _).drew).below b2
  refine hK.out _ _ ⟨Blk.cell X2 0, Blk.cell X2 1, Blk.cell X2 2⟩ (fun hHeld' => ?_)
  clear hK K hHeld
  have hHeld := hHeld'
  clear hHeld'
  (try simp only [Act.put, List.setIfInBounds_toArray, List.set_cons_zero, List.set_cons_succ])
  refine wpAnyH_ready (rs := [8]) (by kernel_rfl) (by simp) ?_
  refine AllReadyH.cons rfl (fun K hK => ?_) AllReadyH.nil
  go_simp
  refine (HRR.out _).mono ?_
  rintro e w' ⟨rfl, rfl⟩
  refine hK.out _ _ ⟨Blk.cell X2 0, Blk.cell X2 1, Blk.cell X2 2⟩ (fun hHeld' => ?_)
  clear hK K hHeld
  have hHeld := hHeld'
  clear hHeld'
  (try simp only [Act.put, List.setIfInBounds_toArray, List.set_cons_zero, List.set_cons_succ])
  refine wpAnyH_take (i := 9) (v := ?_) rfl (by kernel_rfl) (by kernel_rfl) (by kernel_rfl) (fun _ _ _ h => h) (Or.inl ⟨by kernel_rfl, ?_⟩) (by assumption) ?_
  rotate_left
  · intro w hSw; obtain ⟨s0, s1, s2⟩ := hSw; go_simp; (try with_reducible rfl)
  (try simp only [Act.put, List.setIfInBounds_toArray, List.set_cons_zero, List.set_cons_succ])
  refine wpAnyH_take (i := 10) (v := ?_) rfl (by kernel_rfl) (by kernel_rfl) (by kernel_rfl) (fun _ _ _ h => h) (Or.inl ⟨by kernel_rfl, ?_⟩) (by assumption) ?_
  rotate_left
  · intro w hSw; obtain ⟨s0, s1, s2⟩ := hSw; go_simp; (try with_reducible rfl)
  (try simp only [Act.put, List.setIfInBounds_toArray, List.set_cons_zero, List.set_cons_succ])
  refine wpAnyH_take (i := 11) (v := ?_) rfl (by kernel_rfl) (by kernel_rfl) (by kernel_rfl) (fun _ _ _ h => h) (Or.inl ⟨by kernel_rfl, ?_⟩) (by assumption) ?_
  rotate_left
  · intro w hSw; obtain ⟨s0, s1, s2⟩ := hSw; go_simp; (try with_reducible rfl)
  (try simp only [Act.put, List.setIfInBounds_toArray, List.set_cons_zero, List.set_cons_succ])
  refine wpAnyH_take (i := 12) (v := ?_) rfl (by kernel_rfl) (by kernel_rfl) (by kernel_rfl) (fun _ _ _ h => h) (Or.inl ⟨by kernel_rfl, ?_⟩) (by assumption) ?_
  rotate_left
  · intro w hSw; obtain ⟨s0, s1, s2⟩ := hSw; go_simp; (try with_reducible rfl)
  (try simp only [Act.put, List.setIfInBounds_toArray, List.set_cons_zero, List.set_cons_succ])
  refine wpAnyH_take (i := 14) (v := ?_) rfl (by kernel_rfl) (by kernel_rfl) (by kernel_rfl) (fun _ _ _ h => h) (Or.inl ⟨by kernel_rfl, ?_⟩) (by assumption) ?_
  rotate_left
  · intro w hSw; obtain ⟨s0, s1, s2⟩ := hSw; go_simp; (try with_reducible rfl)
  (try simp only [Act.put, List.setIfInBounds_toArray, List.set_cons_zero, List.set_cons_succ])
  refine wpAnyH_take (i := 15) (v := ?_) rfl (by kernel_rfl) (by kernel_rfl) (by kernel_rfl) (fun _ _ _ h => h) (Or.inl ⟨by kernel_rfl, ?_⟩) (by assumption) ?_
  rotate_left
  · intro w hSw; obtain ⟨s0, s1, s2⟩ := hSw; go_simp; (try with_reducible rfl)
  (try simp only [Act.put, List.setIfInBounds_toArray, List.set_cons_zero, List.set_cons_succ])
  refine wpAnyH_ready (rs := [13]) (by kernel_rfl) (by simp) ?_
  refine AllReadyH.cons rfl (fun K hK => ?_) AllReadyH.nil
  go_simp
  refine (HK.out _).mono ?_
  rintro e w' ⟨rfl, rfl⟩
  refine hK.out _ _ ⟨Blk.cell X2 0, Blk.cell X2 1, Blk.cell X2 2⟩ (fun hHeld' => ?_)
  clear hK K hHeld
  have hHeld := hHeld'
  clear hHeld'
  (try simp only [Act.put, List.setIfInBounds_toArray, List.set_cons_zero, List.set_cons_succ])
  refine wpAnyH_ready (rs := [16]) (by kernel_rfl) (by simp) ?_
  refine AllReadyH.cons rfl (fun K hK => ?_) AllReadyH.nil
  go_simp
  refine (HRK.out _).mono ?_
  rintro e w3 ⟨rfl, b3⟩
  have X3 := Blk.below X2 b3 (Blk.lt X2)
  have B3 := below_next B2 b3
  have L3 := L2.below b3
  refine hK.out _ _ ⟨Blk.cell X3 0, Blk.cell X3 1, Blk.cell X3 2⟩ (fun hHeld' => ?_)
  clear hK K hHeld
  have hHeld := hHeld'
  clear hHeld'
  (try simp only [Act.put, List.setIfInBounds_toArray, List.set_cons_zero, List.set_cons_succ])
  refine wpAnyH_take (i := 17) (v := ?_) rfl (by kernel_rfl) (by kernel_rfl) (by kernel_rfl) (fun _ _ _ h => h) (Or.inl ⟨by kernel_rfl, ?_⟩) (by assumption) ?_
  rotate_left
  · intro w hSw; obtain ⟨s0, s1, s2⟩ := hSw; go_simp; (try with_reducible rfl)
  (try simp only [Act.put, List.setIfInBounds_toArray, List.set_cons_zero, List.set_cons_succ])
  refine wpAnyH_take (i := 18) (v := ?_) rfl (by kernel_rfl) (by kernel_rfl) (by kernel_rfl) (fun _ _ _ h => h) (Or.inl ⟨by kernel_rfl, ?_⟩) (by assumption) ?_
  rotate_left
  · intro w hSw; obtain ⟨s0, s1, s2⟩ := hSw; go_simp; (try with_reducible rfl)
  (try simp only [Act.put, List.setIfInBounds_toArray, List.set_cons_zero, List.set_cons_succ])
  refine wpAnyH_take (i := 19) (v := ?_) rfl (by kernel_rfl) (by kernel_rfl) (by kernel_rfl) (fun _ _ _ h => h) (Or.inl ⟨by kernel_rfl, ?_⟩) (by assumption) ?_
  rotate_left
  · intro w hSw; obtain ⟨s0, s1, s2⟩ := hSw; go_simp; (try with_reducible rfl)
  (try simp only [Act.put, List.setIfInBounds_toArray, List.set_cons_zero, List.set_cons_succ])
  refine wpAnyH_take (i := 20) (v := ?_) rfl (by kernel_rfl) (by kernel_rfl) (by kernel_rfl) (fun _ _ _ h => h) (Or.inl ⟨by kernel_rfl, ?_⟩) (by assumption) ?_
  rotate_left
  · intro w hSw; obtain ⟨s0, s1, s2⟩ := hSw; go_simp; (try with_reducible rfl)
  (try simp only [Act.put, List.setIfInBounds_toArray, List.set_cons_zero, List.set_cons_succ])
  refine wpAnyH_take (i := 21) (v := ?_) rfl (by kernel_rfl) (by kernel_rfl) (by kernel_rfl) (fun _ _ _ h => h) (Or.inl ⟨by kernel_rfl, ?_⟩) (by assumption) ?_
  rotate_left
  · intro w hSw; obtain ⟨s0, s1, s2⟩ := hSw; go_simp; (try with_reducible rfl)
  (try simp only [Act.put, List.setIfInBounds_toArray, List.set_cons_zero, List.set_cons_succ])
  refine wpAnyH_take (i := 23) (v := ?_) rfl (by kernel_rfl) (by kernel_rfl) (by kernel_rfl) (fun _ _ _ h => h) (Or.inl ⟨by kernel_rfl, ?_⟩) (by assumption) ?_
  rotate_left
  · intro w hSw; obtain ⟨s0, s1, s2⟩ := hSw; go_simp; (try with_reducible rfl)
  (try simp only [Act.put, List.setIfInBounds_toArray, List.set_cons_zero, List.set_cons_succ])
  refine wpAnyH_take (i := 24) (v := ?_) rfl (by kernel_rfl) (by kernel_rfl) (by kernel_rfl) (fun _ _ _ h => h) (Or.inl ⟨by kernel_rfl, ?_⟩) (by assumption) ?_
  rotate_left
  · intro w hSw; obtain ⟨s0, s1, s2⟩ := hSw; go_simp; (try with_reducible rfl)
  (try simp only [Act.put, List.setIfInBounds_toArray, List.set_cons_zero, List.set_cons_succ])
  refine wpAnyH_ready (rs := [22]) (by kernel_rfl) (by simp) ?_
  refine AllReadyH.cons rfl (fun K hK => ?_) AllReadyH.nil
  go_simp
  refine (HF.out _).mono ?_
  rintro e w' ⟨rfl, rfl⟩
  refine hK.out _ _ ⟨Blk.cell X3 0, Blk.cell X3 1, Blk.cell X3 2⟩ (fun hHeld' => ?_)
  clear hK K hHeld
  have hHeld := hHeld'
  clear hHeld'
  (try simp only [Act.put, List.setIfInBounds_toArray, List.set_cons_zero, List.set_cons_succ])
  refine wpAnyH_ready (rs := [25]) (by kernel_rfl) (by simp) ?_
  refine AllReadyH.cons rfl (fun K hK => ?_) AllReadyH.nil
  go_simp
  refine (HRF.out _).mono ?_
  rintro e w4 ⟨rfl, b4⟩
  have X4 := Blk.below X3 b4 (Blk.lt X3)
  have B4 := below_next B3 b4
  have L4 := L3.below b4
  refine hK.out _ _ ⟨Blk.cell X4 0, Blk.cell X4 1, Blk.cell X4 2⟩ (fun hHeld' => ?_)
  clear hK K hHeld
  have hHeld := hHeld'
  clear hHeld'
  (try simp only [Act.put, List.setIfInBounds_toArray, List.set_cons_zero, List.set_cons_succ])
  refine wpAnyH_take (i := 26) (v := ?_) rfl (by kernel_rfl) (by kernel_rfl) (by kernel_rfl) (fun _ _ _ h => h) (Or.inl ⟨by kernel_rfl, ?_⟩) (by assumption) ?_
  rotate_left
  · intro w hSw; obtain ⟨s0, s1, s2⟩ := hSw; go_simp; (try with_reducible rfl)
  (try simp only [Act.put, List.setIfInBounds_toArray, List.set_cons_zero, List.set_cons_succ])
  refine wpAnyH_take (i := 27) (v := ?_) rfl (by kernel_rfl) (by kernel_rfl) (by kernel_rfl) (fun _ _ _ h => h) (Or.inl ⟨by kernel_rfl, ?_⟩) (by assumption) ?_
  rotate_left
  · intro w hSw; obtain ⟨s0, s1, s2⟩ := hSw; go_simp; (try with_reducible rfl)
  (try simp only [Act.put, List.setIfInBounds_toArray, List.set_cons_zero, List.set_cons_succ])
  refine wpAnyH_done (by kernel_rfl) ?_ _
  (try simp only [List.getElem_toArray, List.getElem_cons_succ, List.getElem_cons_zero, List.set_cons_zero, List.set_cons_succ])
  clear hHeld
  have c0 : w4.cell? ⟨w.heap.size, 0, none⟩ = some (.int .i64 k) := Blk.cell X4 0; have c1 : w4.cell? ⟨w.heap.size, 1, none⟩ = some (.int .i64 f) := Blk.cell X4 1; have c2 : w4.cell? ⟨w.heap.size, 2, none⟩ = some (.int .i64 a) := Blk.cell X4 2; have xl := Blk.lt X4
  go_wp2_with (first
    | (go_at_call 12; refine (HAW.out _ L6).mono ?_; rintro e w7 ⟨rfl, b7⟩)
    | (go_at_call 14; refine (HX.out _).mono ?_; rintro e w6 ⟨rfl, b6⟩; have X6 := Blk.below (Blk.alloc X5 (.cells #[.int .i64 k, .int .i64 f, .int .i64 a] 23)) b6 (Blk.lt (Blk.alloc X5 _)); have P6 : Blk w6 w5.heap.size 23 #[.int .i64 k, .int .i64 f, .int .i64 a] := Blk.below (Blk.new _ _ _) b6 (by simp); have B6 := below_next (B5.alloc B5.size (.cells #[.int .i64 k, .int .i64 f, .int .i64 a] 23)) b6; have L6 := (L5.below ((Below.refl _ _).alloc (Nat.le_refl _) (.cells #[.int .i64 k, .int .i64 f, .int .i64 a] 23))).below b6; clear c0 c1 c2 xl; have c0 : w6.cell? ⟨w.heap.size, 0, none⟩ = some (.int .i64 k) := Blk.cell X6 0; have c1 : w6.cell? ⟨w.heap.size, 1, none⟩ = some (.int .i64 f) := Blk.cell X6 1; have c2 : w6.cell? ⟨w.heap.size, 2, none⟩ = some (.int .i64 a) := Blk.cell X6 2; have xl := Blk.lt X6; have p0 : w6.cell? ⟨w5.heap.size, 0, none⟩ = some (.int .i64 k) := Blk.cell P6 0; have p1 : w6.cell? ⟨w5.heap.size, 1, none⟩ = some (.int .i64 f) := Blk.cell P6 1; have p2 : w6.cell? ⟨w5.heap.size, 2, none⟩ = some (.int .i64 a) := Blk.cell P6 2)
    | (go_at_call 13; refine (HP.out _ L4).mono ?_; rintro e w5 ⟨rfl, b5⟩; have X5 := Blk.below X4 b5 (Blk.lt X4); have B5 := below_next B4 b5; have L5 := L4.below b5; clear c0 c1 c2 xl; have c0 : w5.cell? ⟨w.heap.size, 0, none⟩ = some (.int .i64 k) := Blk.cell X5 0; have c1 : w5.cell? ⟨w.heap.size, 1, none⟩ = some (.int .i64 f) := Blk.cell X5 1; have c2 : w5.cell? ⟨w.heap.size, 2, none⟩ = some (.int .i64 a) := Blk.cell X5 2; have xl := Blk.lt X5)
    | (go_at_call 7; refine (HRR.out _).mono ?_; rintro e w' ⟨rfl, rfl⟩))
  go_ret
  exact ⟨rfl, below_next B6 b7⟩
theorem faultTexts_said {k f a : Int} {w : World} (hL : LibW w) : Calls Tryd.prog 3 #[.agg #[.int .i64 k, .int .i64 f, .int .i64 a]] w fun e w' => e = .returned (.bool true) ∧ Below w.heap.size w w' := by
  by_cases hR : FRight k f a
  · exact faultTexts_yes hL hR
  · exact faultTexts_no hL hR
end Go.Proofs.YtakhobmoalfaoaaDoor
