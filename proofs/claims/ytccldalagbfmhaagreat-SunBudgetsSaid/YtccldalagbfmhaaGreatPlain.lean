/- The document's image as api has it: Plain. -/
import Derived.Test.YtccldalagbfmhaaGreatRasImage
import Derived.Test.YtccldalagbfmhaaGreatFfRef
namespace Go.Proofs.YtccldalagbfmhaaGreat
open Go.RowKit
set_option linter.unusedVariables false
set_option linter.unusedSimpArgs false

set_option maxRecDepth 100000 in
set_option maxHeartbeats 4000000 in
theorem refPlain {w : World} {W H fk fa : Int} {q n c : Nat} {L : List Qc} (hn : n = L.length) (hc : n ≤ c) (hb : n ≤ 268435456) (h : QAt w q 0 L) :
    Calls Tryz.prog 27 #[.agg #[.int .i64 W, .int .i64 H, .slice (some ⟨q, 0, none⟩) n c, .int .i64 fk, .int .i64 fa]] w fun e w' => ∃ d c', e = .returned (.agg #[.int .i64 W, .int .i64 H, .slice (some ⟨d, 0, none⟩) (4 * n) c']) ∧ BytesAt w' (some ⟨d, 0, none⟩) (4 * n) (flat L) ∧ Below w.heap.size w w' := by
  obtain ⟨wA, hwA⟩ : ∃ wA, wA = ((w.alloc (.cells #[.int .i64 W, .int .i64 H, .slice (some ⟨q, 0, none⟩) n c, .int .i64 fk, .int .i64 fa] 42)).alloc (.cells #[.int .i64 0, .int .i64 0, .slice none 0 0] 29)) := ⟨_, rfl⟩
  have HI : Hid (RI wA w.heap.size W H (.slice (some ⟨q, 0, none⟩) n c) fk fa ∧ Blk wA (w.heap.size + 1) 29 #[.int .i64 0, .int .i64 0, .slice none 0 0] ∧ Below w.heap.size w wA) := Lib.hid (by
    subst hwA
    exact ⟨(Blk.new _ _ _).alloc _, Blk.new_at _ _ _ (by simp), ((Below.refl _ _).alloc (Nat.le_refl _) _).alloc (by simp) _⟩)
  have HBY := Lib.hid (refBytes7 (w := wA.drew) hn hc hb (show QAt wA.drew q 0 L from QAt.below' (w' := wA) h HI.out.2.2))
  have HN := Lib.hid hn
  clear hn h
  go_enter Tryz.func27, Tryz.ntmps27
  go_wp2_with fail
  change Code.wp _ _ _ _ ((w.alloc (.cells #[.int .i64 W, .int .i64 H, .slice (some ⟨q, 0, none⟩) n c, .int .i64 fk, .int .i64 fa] 42)).alloc (.cells #[.int .i64 0, .int .i64 0, .slice none 0 0] 29))
  rw [← hwA]
  clear hwA
  have c0 := HI.out.1.all.1
  have c1 := HI.out.1.all.2.1
  have c2 := HI.out.1.all.2.2.1
  have zA := HI.out.2.2.size
  refine wp_region_held_drew (S := (fun w' => w'.cell? ⟨w.heap.size, 0, none⟩ = some (.int .i64 W) ∧ w'.cell? ⟨w.heap.size, 1, none⟩ = some (.int .i64 H) ∧ w'.cell? ⟨w.heap.size, 2, none⟩ = some (.slice (some ⟨q, 0, none⟩) n c))) (by kernel_rfl) ⟨c0, c1, c2⟩ (fun hHeld => ?_)
  refine wpAnyH_take (i := 0) (v := ?_) rfl (by kernel_rfl) (by kernel_rfl) (by kernel_rfl) (fun _ _ _ h => h) (Or.inl ⟨by kernel_rfl, ?_⟩) (by assumption) ?_
  rotate_left
  · intro w hSw; (try dsimp only at hSw); go_simp; (try with_reducible rfl)
  (try simp only [Act.put, List.setIfInBounds_toArray, List.set_cons_zero, List.set_cons_succ])
  refine wpAnyH_take (i := 1) (v := ?_) rfl (by kernel_rfl) (by kernel_rfl) (by kernel_rfl) (fun _ _ _ h => h) (Or.inl ⟨by kernel_rfl, ?_⟩) (by assumption) ?_
  rotate_left
  · intro w hSw; (try dsimp only at hSw); go_simp; (try with_reducible rfl)
  (try simp only [Act.put, List.setIfInBounds_toArray, List.set_cons_zero, List.set_cons_succ])
  refine wpAnyH_take (i := 2) (v := ?_) rfl (by kernel_rfl) (by kernel_rfl) (by kernel_rfl) (fun _ _ _ h => h) (Or.inl ⟨by kernel_rfl, ?_⟩) (by assumption) ?_
  rotate_left
  · intro w hSw; (try dsimp only at hSw); go_simp; (try with_reducible rfl)
  (try simp only [Act.put, List.setIfInBounds_toArray, List.set_cons_zero, List.set_cons_succ])
  refine wpAnyH_take (i := 3) (v := ?_) rfl (by kernel_rfl) (by kernel_rfl) (by kernel_rfl) (fun _ _ _ h => h) (Or.inl ⟨by kernel_rfl, ?_⟩) (by assumption) ?_
  rotate_left
  · intro w hSw; (try dsimp only at hSw); go_simp; (try with_reducible rfl)
  (try simp only [Act.put, List.setIfInBounds_toArray, List.set_cons_zero, List.set_cons_succ])
  refine wpAnyH_take (i := 4) (v := ?_) rfl (by kernel_rfl) (by kernel_rfl) (by kernel_rfl) (fun _ _ _ h => h) (Or.inl ⟨by kernel_rfl, ?_⟩) (by assumption) ?_
  rotate_left
  · intro w hSw; (try dsimp only at hSw); go_simp; (try with_reducible rfl)
  (try simp only [Act.put, List.setIfInBounds_toArray, List.set_cons_zero, List.set_cons_succ])
  refine wpAnyH_take (i := 5) (v := ?_) rfl (by kernel_rfl) (by kernel_rfl) (by kernel_rfl) (fun _ _ _ h => h) (Or.inl ⟨by kernel_rfl, ?_⟩) (by assumption) ?_
  rotate_left
  · intro w hSw; (try dsimp only at hSw); go_simp; (try with_reducible rfl)
  (try simp only [Act.put, List.setIfInBounds_toArray, List.set_cons_zero, List.set_cons_succ])
  refine wpAnyH_ready (rs := [6]) (by kernel_rfl) (by simp) ?_
  refine AllReadyH.cons rfl (fun K hK => ?_) AllReadyH.nil
  go_simp
  refine HBY.out.mono ?_
  rintro e w2 ⟨rfl, b2⟩
  have R2 : RI w2 w.heap.size W H (.slice (some ⟨q, 0, none⟩) n c) fk fa := Blk.below (Blk.drew HI.out.1) b2 (Blk.lt HI.out.1)
  have B2 := HI.out.2.2.drew.trans (b2.mono zA)
  refine hK.out _ _ ⟨R2.all.1, R2.all.2.1, R2.all.2.2.1⟩ (fun hHeld' => ?_)
  clear hK K hHeld
  (try simp only [Act.put, List.setIfInBounds_toArray, List.set_cons_zero, List.set_cons_succ])
  refine wpAnyH_ready (rs := [7]) (by kernel_rfl) (by simp) ?_
  refine AllReadyH.cons rfl (fun K hK => ?_) AllReadyH.nil
  refine oper_convert_text (.tmp 9) rfl (flat L) rfl ?_
  intro c5 w5 own5 b5
  rw [flat_len, ← HN.out] at own5 ⊢
  have B5 := B2.trans (b5.mono (by have := B2.size; omega))
  have R5 : RI w5 w.heap.size W H (.slice (some ⟨q, 0, none⟩) n c) fk fa := Blk.below R2 b5 (Blk.lt R2)
  have Z2 : Blk w2 (w.heap.size + 1) 29 #[.int .i64 0, .int .i64 0, .slice none 0 0] := Blk.below (Blk.drew HI.out.2.1) b2 HI.out.2.1.lt
  have zne : w2.heap.size ≠ w.heap.size + 1 := by have := Z2.lt; omega
  have Z5 : Blk w5 (w.heap.size + 1) 29 #[.int .i64 0, .int .i64 0, .slice none 0 0] := Blk.below Z2 b5 Z2.lt
  refine hK.out _ _ ⟨R5.all.1, R5.all.2.1, R5.all.2.2.1⟩ (fun hHeld => ?_)
  clear hK K hHeld'
  (try simp only [Act.put, List.setIfInBounds_toArray, List.set_cons_zero, List.set_cons_succ])
  refine wpAnyH_take (i := 8) (v := ?_) rfl (by kernel_rfl) (by kernel_rfl) (by kernel_rfl) (fun _ _ _ h => h) (Or.inl ⟨by kernel_rfl, ?_⟩) (by assumption) ?_
  rotate_left
  · intro w hSw; (try dsimp only at hSw); go_simp; (try with_reducible rfl)
  (try simp only [Act.put, List.setIfInBounds_toArray, List.set_cons_zero, List.set_cons_succ])
  have y0 := Blk.cell Z5 0
  have y1 := Blk.cell Z5 1
  have y2 := Blk.cell Z5 2
  have yz0 := Blk.frozen Z5 0
  have yz1 := Blk.frozen Z5 1
  have yz2 := Blk.frozen Z5 2
  refine wpAnyH_ready (rs := [9]) (by kernel_rfl) (by simp) ?_
  refine AllReadyH.cons rfl (fun K hK => ?_) AllReadyH.nil
  go_simp
  have Q9 : BytesAt (((w5.setCell ⟨w.heap.size + 1, 0, none⟩ (.int .i64 W)).setCell ⟨w.heap.size + 1, 1, none⟩ (.int .i64 H)).setCell ⟨w.heap.size + 1, 2, none⟩ (.slice (some ⟨w2.heap.size, 0, none⟩) (4 * n) c5)) (some ⟨w2.heap.size, 0, none⟩) (4 * n) (flat L) := ((own5.far zne).far zne).far zne
  have P9 : RI (((w5.setCell ⟨w.heap.size + 1, 0, none⟩ (.int .i64 W)).setCell ⟨w.heap.size + 1, 1, none⟩ (.int .i64 H)).setCell ⟨w.heap.size + 1, 2, none⟩ (.slice (some ⟨w2.heap.size, 0, none⟩) (4 * n) c5)) w.heap.size W H (.slice (some ⟨q, 0, none⟩) n c) fk fa := Blk.far (Blk.far (Blk.far R5 (by simp) _) (by simp) _) (by simp) _
  have R9 : Blk (((w5.setCell ⟨w.heap.size + 1, 0, none⟩ (.int .i64 W)).setCell ⟨w.heap.size + 1, 1, none⟩ (.int .i64 H)).setCell ⟨w.heap.size + 1, 2, none⟩ (.slice (some ⟨w2.heap.size, 0, none⟩) (4 * n) c5)) (w.heap.size + 1) 29 #[.int .i64 W, .int .i64 H, .slice (some ⟨w2.heap.size, 0, none⟩) (4 * n) c5] := ((Z5.set_ 0 _).set_ 1 _).set_ 2 _
  have B9 : Below w.heap.size w (((w5.setCell ⟨w.heap.size + 1, 0, none⟩ (.int .i64 W)).setCell ⟨w.heap.size + 1, 1, none⟩ (.int .i64 H)).setCell ⟨w.heap.size + 1, 2, none⟩ (.slice (some ⟨w2.heap.size, 0, none⟩) (4 * n) c5)) := below_set (below_set (below_set B5 (by omega)) (by omega)) (by omega)
  refine hK.out _ _ ⟨P9.all.1, P9.all.2.1, P9.all.2.2.1⟩ (fun hHeld' => ?_)
  clear hK K hHeld y0 y1 y2 yz0 yz1 yz2
  refine wpAnyH_done (by kernel_rfl) ?_ _
  clear hHeld'
  change Exit.then _ _ _ _ (((w5.setCell ⟨w.heap.size + 1, 0, none⟩ (.int .i64 W)).setCell ⟨w.heap.size + 1, 1, none⟩ (.int .i64 H)).setCell ⟨w.heap.size + 1, 2, none⟩ (.slice (some ⟨w2.heap.size, 0, none⟩) (4 * n) c5))
  generalize (((w5.setCell ⟨w.heap.size + 1, 0, none⟩ (.int .i64 W)).setCell ⟨w.heap.size + 1, 1, none⟩ (.int .i64 H)).setCell ⟨w.heap.size + 1, 2, none⟩ (.slice (some ⟨w2.heap.size, 0, none⟩) (4 * n) c5)) = we at Q9 R9 B9 ⊢
  have r0 := Blk.cell R9 0
  have r1 := Blk.cell R9 1
  have r2 := Blk.cell R9 2
  go_wp2_with fail
  exact bodyPost_ret (v := .agg #[.int .i64 W, .int .i64 H, .slice (some ⟨w2.heap.size, 0, none⟩) (4 * n) c5]) (by simp [results, Tryz.results27, go_sem, r0, r1, r2]) rfl ⟨_, _, rfl, Q9, B9⟩
end Go.Proofs.YtccldalagbfmhaaGreat
