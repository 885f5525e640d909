/- fault: Text, and the document's. -/
import Derived.Test.YtakhobmoalfaoaaDoorFltC
import Derived.Deep.RegionWith
import Derived.Deep.RegionHeld3
import Derived.Lib.AppendIntMem
namespace Go.Proofs.YtakhobmoalfaoaaDoor
open Go.RowKit
set_option linter.unusedVariables false
set_option linter.unusedSimpArgs false

/-- what of the library's variables is read -/
structure LibW (w : World) : Prop where
  tab : Lib.TabIs Tryd.prog w "internal/strconv.uint64pow10" .u64 Lib.pow10Tab
  syn : ∃ tp p, w.var? Tryd.prog "strconv.ErrSyntax" = some #[.iface tp p]
  rng : ∃ tp p, w.var? Tryd.prog "strconv.ErrRange" = some #[.iface tp p]
theorem LibW.below {w w' : World} (h : LibW w) (b : Below w.heap.size w w') : LibW w' :=
  ⟨Joins.tab_stays (g := 3) (by kernel_rfl) h.tab b (Nat.le_refl _), by obtain ⟨t, p, e⟩ := h.syn; exact ⟨t, p, Joins.var_stays (g := 1) (by kernel_rfl) e b (Nat.le_refl _)⟩, by obtain ⟨t, p, e⟩ := h.rng; exact ⟨t, p, Joins.var_stays (g := 2) (by kernel_rfl) e b (Nat.le_refl _)⟩⟩
theorem itoaC {w : World} (h : LibW w) {n : Nat} (hn : n ≤ 4611686018427387904) : Calls Tryd.prog 16 #[.int .i64 (n : Int)] w fun e w' => e = .returned (.string (dec n)) ∧ Below w.heap.size w w' := by
  refine (Tryd.strconv_Itoa (n : Int) (by omega) (by omega) w h.tab).mono ?_
  rintro e w' ⟨rfl, k, os, rfl⟩
  refine ⟨?_, Lib.below_grow _ _ (Nat.le_refl _) k os⟩
  have : Lib.itoa (n : Int) = Lib.decDigits n := by unfold Lib.itoa; rw [if_neg (by omega)]; rfl
  rw [this]
  rfl
def ftext (k f : Int) (n : Nat) : ByteArray := wordOf kWords k ++ ⟨#[32]⟩ ++ wordOf fWords f ++ ⟨#[32]⟩ ++ dec n
theorem kWord_size (n : Int) : (wordOf kWords n).size ≤ 11 := by
  by_cases h : 0 ≤ n ∧ n ≤ 4
  · have : n = 0 ∨ n = 1 ∨ n = 2 ∨ n = 3 ∨ n = 4 := by omega
    rcases this with rfl | rfl | rfl | rfl | rfl <;> decide
  · rw [wordOf_out (by simp only [kWords, List.length_cons, List.length_nil]; omega)]; decide
theorem fWord_size (n : Int) : (wordOf fWords n).size ≤ 7 := by
  by_cases h : 0 ≤ n ∧ n ≤ 8
  · have : n = 0 ∨ n = 1 ∨ n = 2 ∨ n = 3 ∨ n = 4 ∨ n = 5 ∨ n = 6 ∨ n = 7 ∨ n = 8 := by omega
    rcases this with rfl | rfl | rfl | rfl | rfl | rfl | rfl | rfl | rfl <;> decide
  · rw [wordOf_out (by simp only [fWords, List.length_cons, List.length_nil]; omega)]; decide
set_option maxHeartbeats 2000000 in
theorem textC {k f : Int} {n : Nat} {w : World} (hL : LibW w) (hR : FRight k f (n : Int)) : Calls Tryd.prog 5 #[.agg #[.int .i64 k, .int .i64 f, .int .i64 (n : Int)]] w fun e w' => e = .returned (.tuple #[.string (ftext k f n), .int .i64 0]) ∧ Below w.heap.size w w' := by
  have hn : n ≤ 4611686018427387904 := by unfold FRight at hR; omega
  have HK := Lib.hid (kindC k)
  have HF := Lib.hid (formatC f)
  have HI := Lib.hid (fun (w' : World) (b : Below w.heap.size w w') => itoaC (hL.below b) hn)
  have HR0 := rightC k f (n : Int)
  rw [decide_eq_true hR] at HR0
  have HR := Lib.hid HR0
  clear HR0
  have z1 := kWord_size k
  have z2 := fWord_size f
  have z3 := dec_size n
  have z4 : (⟨#[32]⟩ : ByteArray).size = 1 := rfl
  have A1 : ∀ w : World, (Op.stringOp .add (wordOf kWords k) ⟨#[32]⟩).run Tryd.prog w = .ok (.string (wordOf kWords k ++ ⟨#[32]⟩)) w := fun w => run_string_add_sum w _ _ (by omega)
  have A2 : ∀ w : World, (Op.stringOp .add (wordOf kWords k ++ ⟨#[32]⟩) (wordOf fWords f)).run Tryd.prog w = .ok (.string (wordOf kWords k ++ ⟨#[32]⟩ ++ wordOf fWords f)) w := fun w => run_string_add_sum w _ _ (by rw [ByteArray.size_append]; omega)
  have A3 : ∀ w : World, (Op.stringOp .add (wordOf kWords k ++ ⟨#[32]⟩ ++ wordOf fWords f) ⟨#[32]⟩).run Tryd.prog w = .ok (.string (wordOf kWords k ++ ⟨#[32]⟩ ++ wordOf fWords f ++ ⟨#[32]⟩)) w := fun w => run_string_add_sum w _ _ (by rw [ByteArray.size_append, ByteArray.size_append]; omega)
  have A4 : ∀ w : World, (Op.stringOp .add (wordOf kWords k ++ ⟨#[32]⟩ ++ wordOf fWords f ++ ⟨#[32]⟩) (dec n)).run Tryd.prog w = .ok (.string (ftext k f n)) w := fun w => run_string_add_sum w _ _ (by rw [ByteArray.size_append, ByteArray.size_append, ByteArray.size_append]; omega)
  generalize ftext k f n = c4 at A4 ⊢
  generalize wordOf kWords k ++ ⟨#[32]⟩ ++ wordOf fWords f ++ ⟨#[32]⟩ = c3 at A3 A4
  generalize wordOf kWords k ++ ⟨#[32]⟩ ++ wordOf fWords f = c2 at A2 A3
  generalize wordOf kWords k ++ ⟨#[32]⟩ = c1 at A1 A2
  generalize wordOf kWords k = wk at HK A1
  generalize wordOf fWords f = wf at HF A2
  generalize dec n = dn at HI A4
  clear z1 z2 z3 z4
  have HA := Lib.hid (Blk.new w 23 #[.int .i64 k, .int .i64 f, .int .i64 (n : Int)])
  clear hR hn hL
  go_enter Tryd.func5, Tryd.ntmps5
  go_upto_region 3 with (go_at_call 6; refine (HR.out _).mono ?_; rintro e w1 ⟨rfl, b1⟩)
  have A9 := Blk.below HA.out b1 (Blk.lt HA.out)
  have B1 : Below w.heap.size w w1 := below_next ((Below.refl _ _).alloc (Nat.le_refl _) _) b1
  have a0 := Blk.cell A9 0
  have a1 := Blk.cell A9 1
  have a2 := Blk.cell A9 2
  have al := Blk.lt A9
  have HB := Lib.hid (And.intro B1 A9)
  clear b1 B1 A9 HA
  refine wp_region_held_drew (S := (fun wx => wx.cell? ⟨w.heap.size, 0, none⟩ = some (.int .i64 k) ∧ wx.cell? ⟨w.heap.size, 1, none⟩ = some (.int .i64 f) ∧ wx.cell? ⟨w.heap.size, 2, none⟩ = some (.int .i64 (n : Int)))) (by kernel_rfl) ⟨a0, a1, a2⟩ (fun hHeld => ?_)
  refine wpAnyH_take (i := 0) (v := ?_) rfl (by kernel_rfl) (by kernel_rfl) (by kernel_rfl) (fun _ _ _ h => h) (Or.inl ⟨by kernel_rfl, ?_⟩) (by assumption) ?_
  rotate_left
  · intro w hSw; obtain ⟨s0, s1, s2⟩ := hSw; go_simp; (try with_reducible rfl)
  (try simp only [Act.put, List.setIfInBounds_toArray, List.set_cons_zero, List.set_cons_succ])
  refine wpAnyH_take (i := 1) (v := ?_) rfl (by kernel_rfl) (by kernel_rfl) (by kernel_rfl) (fun _ _ _ h => h) (Or.inl ⟨by kernel_rfl, ?_⟩) (by assumption) ?_
  rotate_left
  · intro w hSw; obtain ⟨s0, s1, s2⟩ := hSw; go_simp; (try with_reducible rfl)
  (try simp only [Act.put, List.setIfInBounds_toArray, List.set_cons_zero, List.set_cons_succ])
  refine wpAnyH_take (i := 4) (v := ?_) rfl (by kernel_rfl) (by kernel_rfl) (by kernel_rfl) (fun _ _ _ h => h) (Or.inl ⟨by kernel_rfl, ?_⟩) (by assumption) ?_
  rotate_left
  · intro w hSw; obtain ⟨s0, s1, s2⟩ := hSw; go_simp; (try with_reducible rfl)
  (try simp only [Act.put, List.setIfInBounds_toArray, List.set_cons_zero, List.set_cons_succ])
  refine wpAnyH_take (i := 5) (v := ?_) rfl (by kernel_rfl) (by kernel_rfl) (by kernel_rfl) (fun _ _ _ h => h) (Or.inl ⟨by kernel_rfl, ?_⟩) (by assumption) ?_
  rotate_left
  · intro w hSw; obtain ⟨s0, s1, s2⟩ := hSw; go_simp; (try with_reducible rfl)
  (try simp only [Act.put, List.setIfInBounds_toArray, List.set_cons_zero, List.set_cons_succ])
  refine wpAnyH_take (i := 9) (v := ?_) rfl (by kernel_rfl) (by kernel_rfl) (by kernel_rfl) (fun _ _ _ h => h) (Or.inl ⟨by kernel_rfl, ?_⟩) (by assumption) ?_
  rotate_left
  · intro w hSw; obtain ⟨s0, s1, s2⟩ := hSw; go_simp; (try with_reducible rfl)
  (try simp only [Act.put, List.setIfInBounds_toArray, List.set_cons_zero, List.set_cons_succ])
  refine wpAnyH_take (i := 10) (v := ?_) rfl (by kernel_rfl) (by kernel_rfl) (by kernel_rfl) (fun _ _ _ h => h) (Or.inl ⟨by kernel_rfl, ?_⟩) (by assumption) ?_
  rotate_left
  · intro w hSw; obtain ⟨s0, s1, s2⟩ := hSw; go_simp; (try with_reducible rfl)
  (try simp only [Act.put, List.setIfInBounds_toArray, List.set_cons_zero, List.set_cons_succ])
  refine wpAnyH_ready (rs := [2]) (by kernel_rfl) (by simp) ?_
  refine AllReadyH.cons rfl (fun K hK => ?_) AllReadyH.nil
  go_simp
  refine (HK.out _).mono ?_
  rintro e w' ⟨rfl, rfl⟩
  refine hK.out _ _ ⟨a0, a1, a2⟩ (fun hHeld' => ?_)
  clear hK K hHeld
  have hHeld := hHeld'
  clear hHeld'
  (try simp only [Act.put, List.setIfInBounds_toArray, List.set_cons_zero, List.set_cons_succ])
  refine wpAnyH_take (i := 3) (v := ?_) rfl (by kernel_rfl) (by kernel_rfl) (by kernel_rfl) (fun _ _ _ h => h) (Or.inl ⟨by kernel_rfl, ?_⟩) (by assumption) ?_
  rotate_left
  · intro w hSw; obtain ⟨s0, s1, s2⟩ := hSw; go_simp; (try with_reducible rfl)
  (try simp only [Act.put, List.setIfInBounds_toArray, List.set_cons_zero, List.set_cons_succ])
  refine wpAnyH_ready (rs := [6]) (by kernel_rfl) (by simp) ?_
  refine AllReadyH.cons rfl (fun K hK => ?_) AllReadyH.nil
  go_simp
  refine (HF.out _).mono ?_
  rintro e w' ⟨rfl, rfl⟩
  refine hK.out _ _ ⟨a0, a1, a2⟩ (fun hHeld' => ?_)
  clear hK K hHeld
  have hHeld := hHeld'
  clear hHeld'
  (try simp only [Act.put, List.setIfInBounds_toArray, List.set_cons_zero, List.set_cons_succ])
  refine wpAnyH_take (i := 7) (v := ?_) rfl (by kernel_rfl) (by kernel_rfl) (by kernel_rfl) (fun _ _ _ h => h) (Or.inl ⟨by kernel_rfl, ?_⟩) (by assumption) ?_
  rotate_left
  · intro w hSw; obtain ⟨s0, s1, s2⟩ := hSw; go_simp; (try with_reducible rfl)
  (try simp only [Act.put, List.setIfInBounds_toArray, List.set_cons_zero, List.set_cons_succ])
  refine wpAnyH_take (i := 8) (v := ?_) rfl (by kernel_rfl) (by kernel_rfl) (by kernel_rfl) (fun _ _ _ h => h) (Or.inl ⟨by kernel_rfl, ?_⟩) (by assumption) ?_
  rotate_left
  · intro w hSw; obtain ⟨s0, s1, s2⟩ := hSw; go_simp; (try with_reducible rfl)
  (try simp only [Act.put, List.setIfInBounds_toArray, List.set_cons_zero, List.set_cons_succ])
  refine wpAnyH_ready (rs := [11]) (by kernel_rfl) (by simp) ?_
  refine AllReadyH.cons rfl (fun K hK => ?_) AllReadyH.nil
  go_simp
  refine (HI.out _ HB.out.1.drew).mono ?_
  rintro e w2 ⟨rfl, b2⟩
  have A8 := Blk.below (Blk.drew HB.out.2) b2 (Blk.lt HB.out.2)
  have B2 := below_next HB.out.1.drew b2
  refine hK.out _ _ ⟨Blk.cell A8 0, Blk.cell A8 1, Blk.cell A8 2⟩ (fun hHeld' => ?_)
  clear hK K hHeld
  have hHeld := hHeld'
  clear hHeld'
  (try simp only [Act.put, List.setIfInBounds_toArray, List.set_cons_zero, List.set_cons_succ])
  refine wpAnyH_take (i := 12) (v := ?_) rfl (by kernel_rfl) (by kernel_rfl) (by kernel_rfl) (fun _ _ _ h => h) (Or.inl ⟨by kernel_rfl, ?_⟩) (by assumption) ?_
  rotate_left
  · intro w hSw; obtain ⟨s0, s1, s2⟩ := hSw; go_simp; (try with_reducible rfl)
  (try simp only [Act.put, List.setIfInBounds_toArray, List.set_cons_zero, List.set_cons_succ])
  refine wpAnyH_take (i := 13) (v := ?_) rfl (by kernel_rfl) (by kernel_rfl) (by kernel_rfl) (fun _ _ _ h => h) (Or.inl ⟨by kernel_rfl, ?_⟩) (by assumption) ?_
  rotate_left
  · intro w hSw; obtain ⟨s0, s1, s2⟩ := hSw; go_simp; (try with_reducible rfl)
  (try simp only [Act.put, List.setIfInBounds_toArray, List.set_cons_zero, List.set_cons_succ])
  refine wpAnyH_take (i := 14) (v := ?_) rfl (by kernel_rfl) (by kernel_rfl) (by kernel_rfl) (fun _ _ _ h => h) (Or.inl ⟨by kernel_rfl, ?_⟩) (by assumption) ?_
  rotate_left
  · intro w hSw; obtain ⟨s0, s1, s2⟩ := hSw; go_simp; (try with_reducible rfl)
  (try simp only [Act.put, List.setIfInBounds_toArray, List.set_cons_zero, List.set_cons_succ])
  refine wpAnyH_done (by kernel_rfl) ?_ _
  (try simp only [List.getElem_toArray, List.getElem_cons_succ, List.getElem_cons_zero, List.set_cons_zero, List.set_cons_succ])
  clear hHeld
  go_wp2_with fail
  go_ret2
  exact ⟨rfl, B2⟩
theorem textC_no {k f a : Int} {w : World} (hR : ¬ FRight k f a) : Calls Tryd.prog 5 #[.agg #[.int .i64 k, .int .i64 f, .int .i64 a]] w fun e w' => e = .returned (.tuple #[.string ⟨#[]⟩, .int .i64 1]) ∧ Below w.heap.size w w' := by
  have HR0 := rightC k f a
  rw [decide_eq_false hR] at HR0
  have HR := Lib.hid HR0
  clear HR0 hR
  go_enter Tryd.func5, Tryd.ntmps5
  go_wp2_with (go_at_call 6; refine (HR.out _).mono ?_; rintro e w1 ⟨rfl, b1⟩; have B1 : Below w.heap.size w w1 := below_next ((Below.refl _ _).alloc (Nat.le_refl _) _) b1)
  go_ret2
  exact ⟨rfl, B1⟩
set_option maxHeartbeats 2000000 in
theorem refTextC {k f : Int} {n : Nat} (w : World) (hn : n ≤ 4611686018427387904) : Calls Tryd.prog 14 #[.int .i64 k, .int .i64 f, .int .i64 (n : Int)] w fun e w' => e = .returned (.string (ftext k f n)) ∧ Below w.heap.size w w' := by
  have HK := Lib.hid (refKindC k)
  have HF := Lib.hid (refFormatC f)
  have HI := Lib.hid (refDigitsC n hn)
  have z1 := kWord_size k
  have z2 := fWord_size f
  have z3 := dec_size n
  have z4 : (⟨#[32]⟩ : ByteArray).size = 1 := rfl
  have A1 : ∀ w : World, (Op.stringOp .add (wordOf kWords k) ⟨#[32]⟩).run Tryd.prog w = .ok (.string (wordOf kWords k ++ ⟨#[32]⟩)) w := fun w => run_string_add_sum w _ _ (by omega)
  have A2 : ∀ w : World, (Op.stringOp .add (wordOf kWords k ++ ⟨#[32]⟩) (wordOf fWords f)).run Tryd.prog w = .ok (.string (wordOf kWords k ++ ⟨#[32]⟩ ++ wordOf fWords f)) w := fun w => run_string_add_sum w _ _ (by rw [ByteArray.size_append]; omega)
  have A3 : ∀ w : World, (Op.stringOp .add (wordOf kWords k ++ ⟨#[32]⟩ ++ wordOf fWords f) ⟨#[32]⟩).run Tryd.prog w = .ok (.string (wordOf kWords k ++ ⟨#[32]⟩ ++ wordOf fWords f ++ ⟨#[32]⟩)) w := fun w => run_string_add_sum w _ _ (by rw [ByteArray.size_append, ByteArray.size_append]; omega)
  have A4 : ∀ w : World, (Op.stringOp .add (wordOf kWords k ++ ⟨#[32]⟩ ++ wordOf fWords f ++ ⟨#[32]⟩) (dec n)).run Tryd.prog w = .ok (.string (ftext k f n)) w := fun w => run_string_add_sum w _ _ (by rw [ByteArray.size_append, ByteArray.size_append, ByteArray.size_append]; omega)
  generalize ftext k f n = c4 at A4 ⊢
  generalize wordOf kWords k ++ ⟨#[32]⟩ ++ wordOf fWords f ++ ⟨#[32]⟩ = c3 at A3 A4
  generalize wordOf kWords k ++ ⟨#[32]⟩ ++ wordOf fWords f = c2 at A2 A3
  generalize wordOf kWords k ++ ⟨#[32]⟩ = c1 at A1 A2
  generalize wordOf kWords k = wk at HK A1
  generalize wordOf fWords f = wf at HF A2
  generalize dec n = dn at HI A4
  clear z1 z2 z3 z4
  clear hn
  go_enter Tryd.func14, Tryd.ntmps14
  go_wp2_with (first
    | (go_at_call 9; refine (HK.out _).mono ?_; rintro e w1 ⟨rfl, b1⟩)
    | (go_at_call 11; refine (HF.out _).mono ?_; rintro e w2 ⟨rfl, b2⟩)
    | (go_at_call 21; refine (HI.out _).mono ?_; rintro e w3 ⟨rfl, b3⟩))
  go_ret
  exact ⟨rfl, below_next (below_next b1 b2) b3⟩
end Go.Proofs.YtakhobmoalfaoaaDoor
