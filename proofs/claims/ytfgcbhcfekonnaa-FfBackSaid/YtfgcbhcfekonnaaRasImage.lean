/- The document's raster: Image. -/
import Derived.Test.YtfgcbhcfekonnaaRasBytes
import Derived.Test.YtfgcbhcfekonnaaRas
import Derived.Lib.ConvBytes
namespace Go.Proofs.Ytfgcbhcfekonnaa
open Go.RowKit
set_option linter.unusedVariables false
set_option linter.unusedSimpArgs false

/-- []byte(a text): one operation -/
theorem oper_convert_text {o : Oper} {a : Act} {w : World} {K : Act → World → Prop} {Q : Exit → Act → World → Prop}
    (x : Operand) (ho : o.op = .convert 9 44 x) (l : List UInt8) (hx : a.eval x = .string (strOf l))
    (h : ∀ c w', BytesAt w' (some ⟨w.heap.size, 0, none⟩) l.length l → Below w.heap.size w w' → K (a.put o.dst (.slice (some ⟨w.heap.size, 0, none⟩) l.length c)) w') : Oper.wp Try.prog o a w K Q := by
  have hr := Go.Lib.run_convert_string_bytes (P := Try.prog) w 9 44 5 (strOf l) Try.underlying9 Try.underlying44 Try.underlying5
  have hz : (strOf l).size = l.length := by rw [size_list', strOf_data]
  unfold Oper.wp
  simp only [execOp, ho, hx, Sem.run_bind, Sem.run_pure, Result.andThen_ok, hr]
  rw [hz]
  refine h _ _ ⟨rfl, .inr ⟨_, _, rfl, fun j hj => ?_⟩⟩ ⟨rfl, rfl, rfl, by rw [Go.Lib.bytesWorld_size]; omega, fun k hk => Go.Lib.bytesWorld_at_old _ _ _ k hk⟩
  rw [Nat.zero_add, Go.Lib.bytesWorld_cell _ _ _ j (by rw [hz]; exact hj), strOf_data, List.getD_eq_getElem?_getD, List.getElem?_eq_getElem hj]
  rfl
theorem BytesAt.far {w : World} {b off n k i : Nat} {u : Value} {l : List UInt8} (h : BytesAt w (some ⟨b, off, none⟩) n l) (hk : b ≠ k) : BytesAt (w.setCell ⟨k, i, none⟩ u) (some ⟨b, off, none⟩) n l := by
  obtain ⟨h1, h0 | ⟨b', off', e, hc⟩⟩ := h
  · exact ⟨h1, .inl h0⟩
  · simp only [Option.some.injEq, Addr.mk.injEq] at e
    obtain ⟨rfl, rfl, _⟩ := e
    exact ⟨h1, .inr ⟨b, off, rfl, fun j hj => (World.cell?_of_block (Below.heap_setCell w ⟨k, i, none⟩ u b hk)).trans (hc j hj)⟩⟩
set_option maxRecDepth 100000 in
set_option maxHeartbeats 4000000 in
theorem refImage7 {w : World} {W H : Int} {q n c : Nat} {o : Bool} {L : List Qc} (hn : n = L.length) (hc : n ≤ c) (hb : n ≤ 268435456) (h : QAt w q 0 L) :
    Calls Try.prog 52 #[.agg (refC W H q n c o)] w fun e w' => ∃ d c', e = .returned (.agg #[.int .i64 W, .int .i64 H, .slice (some ⟨d, 0, none⟩) (4 * n) c']) ∧ BytesAt w' (some ⟨d, 0, none⟩) (4 * n) (flat L) ∧ Below w.heap.size w w' := by
  unfold refC
  obtain ⟨wA, hwA⟩ : ∃ wA, wA = ((w.alloc (.cells (refC W H q n c o) 34)).alloc (.cells #[.int .i64 0, .int .i64 0, .slice none 0 0] 46)) := ⟨_, rfl⟩
  have HI : Hid (RB wA w.heap.size W H q n c o ∧ Blk wA (w.heap.size + 1) 46 #[.int .i64 0, .int .i64 0, .slice none 0 0] ∧ Below w.heap.size w wA) := Lib.hid (by
    subst hwA
    exact ⟨(Blk.new _ _ _).alloc _, Blk.new_at _ _ _ (by simp), ((Below.refl _ _).alloc (Nat.le_refl _) _).alloc (by simp) _⟩)
  have HBY := Lib.hid (refBytes7 (w := wA.drew) hn hc hb (show QAt wA.drew q 0 L from QAt.below' (w' := wA) h HI.out.2.2))
  have HN := Lib.hid hn
  clear hn h
  simp only [refC] at hwA
  go_enter Try.func52, Try.ntmps52
  go_wp2_with fail
  change Code.wp _ _ _ _ ((w.alloc (.cells #[.int .i64 W, .int .i64 H, .slice (some ⟨q, 0, none⟩) n c, .bool o] 34)).alloc (.cells #[.int .i64 0, .int .i64 0, .slice none 0 0] 46))
  rw [← hwA]
  clear hwA
  have c0 := HI.out.1.c0
  have c1 := HI.out.1.c1
  have c2 := HI.out.1.c2
  have zA := HI.out.2.2.size
  refine wp_region_held_drew (S := (fun w' => w'.cell? ⟨w.heap.size, 0, none⟩ = some (.int .i64 W) ∧ w'.cell? ⟨w.heap.size, 1, none⟩ = some (.int .i64 H) ∧ w'.cell? ⟨w.heap.size, 2, none⟩ = some (.slice (some ⟨q, 0, none⟩) n c))) (by kernel_rfl) ⟨c0, c1, c2⟩ (fun hHeld => ?_)
  refine wpAnyH_take (i := 0) (v := ?_) rfl (by kernel_rfl) (by kernel_rfl) (by kernel_rfl) (fun _ _ _ h => h) (Or.inl ⟨by kernel_rfl, ?_⟩) (by assumption) ?_
  rotate_left
  · intro w hSw; (try dsimp only at hSw); go_simp; (try with_reducible rfl)
  (try simp only [Act.put, List.setIfInBounds_toArray, List.set_cons_zero, List.set_cons_succ])
  refine wpAnyH_take (i := 1) (v := ?_) rfl (by kernel_rfl) (by kernel_rfl) (by kernel_rfl) (fun _ _ _ h => h) (Or.inl ⟨by kernel_rfl, ?_⟩) (by assumption) ?_
  rotate_left
  · intro w hSw; (try dsimp only at hSw); go_simp; (try with_reducible rfl)
  (try simp only [Act.put, List.setIfInBounds_toArray, List.set_cons_zero, List.set_cons_succ])
  refine wpAnyH_take (i := 2) (v := ?_) rfl (by kernel_rfl) (by kernel_rfl) (by kernel_rfl) (fun _ _ _ h => h) (Or.inl ⟨by kernel_rfl, ?_⟩) (by assumption) ?_
  rotate_left
  · intro w hSw; (try dsimp only at hSw); go_simp; (try with_reducible rfl)
  (try simp only [Act.put, List.setIfInBounds_toArray, List.set_cons_zero, List.set_cons_succ])
  refine wpAnyH_take (i := 3) (v := ?_) rfl (by kernel_rfl) (by kernel_rfl) (by kernel_rfl) (fun _ _ _ h => h) (Or.inl ⟨by kernel_rfl, ?_⟩) (by assumption) ?_
  rotate_left
  · intro w hSw; (try dsimp only at hSw); go_simp; (try with_reducible rfl)
  (try simp only [Act.put, List.setIfInBounds_toArray, List.set_cons_zero, List.set_cons_succ])
  refine wpAnyH_take (i := 4) (v := ?_) rfl (by kernel_rfl) (by kernel_rfl) (by kernel_rfl) (fun _ _ _ h => h) (Or.inl ⟨by kernel_rfl, ?_⟩) (by assumption) ?_
  rotate_left
  · intro w hSw; (try dsimp only at hSw); go_simp; (try with_reducible rfl)
  (try simp only [Act.put, List.setIfInBounds_toArray, List.set_cons_zero, List.set_cons_succ])
  refine wpAnyH_take (i := 5) (v := ?_) rfl (by kernel_rfl) (by kernel_rfl) (by kernel_rfl) (fun _ _ _ h => h) (Or.inl ⟨by kernel_rfl, ?_⟩) (by assumption) ?_
  rotate_left
  · intro w hSw; (try dsimp only at hSw); go_simp; (try with_reducible rfl)
  (try simp only [Act.put, List.setIfInBounds_toArray, List.set_cons_zero, List.set_cons_succ])
  refine wpAnyH_ready (rs := [6]) (by kernel_rfl) (by simp) ?_
  refine AllReadyH.cons rfl (fun K hK => ?_) AllReadyH.nil
  go_simp
  refine HBY.out.mono ?_
  rintro e w2 ⟨rfl, b2⟩
  have R2 : RB w2 w.heap.size W H q n c o := Blk.below (Blk.drew HI.out.1) b2 HI.out.1.lt
  have B2 := HI.out.2.2.drew.trans (b2.mono zA)
  refine hK.out _ _ ⟨R2.c0, R2.c1, R2.c2⟩ (fun hHeld' => ?_)
  clear hK K hHeld
  (try simp only [Act.put, List.setIfInBounds_toArray, List.set_cons_zero, List.set_cons_succ])
  refine wpAnyH_ready (rs := [7]) (by kernel_rfl) (by simp) ?_
  refine AllReadyH.cons rfl (fun K hK => ?_) AllReadyH.nil
  refine oper_convert_text (.tmp 9) rfl (flat L) rfl ?_
  intro c5 w5 own5 b5
  rw [flat_len, ← HN.out] at own5 ⊢
  have B5 := B2.trans (b5.mono (by have := B2.size; omega))
  have R5 : RB w5 w.heap.size W H q n c o := Blk.below R2 b5 R2.lt
  have Z2 : Blk w2 (w.heap.size + 1) 46 #[.int .i64 0, .int .i64 0, .slice none 0 0] := Blk.below (Blk.drew HI.out.2.1) b2 HI.out.2.1.lt
  have zne : w2.heap.size ≠ w.heap.size + 1 := by have := Z2.lt; omega
  have Z5 : Blk w5 (w.heap.size + 1) 46 #[.int .i64 0, .int .i64 0, .slice none 0 0] := Blk.below Z2 b5 Z2.lt
  refine hK.out _ _ ⟨R5.c0, R5.c1, R5.c2⟩ (fun hHeld => ?_)
  clear hK K hHeld'
  (try simp only [Act.put, List.setIfInBounds_toArray, List.set_cons_zero, List.set_cons_succ])
  refine wpAnyH_take (i := 8) (v := ?_) rfl (by kernel_rfl) (by kernel_rfl) (by kernel_rfl) (fun _ _ _ h => h) (Or.inl ⟨by kernel_rfl, ?_⟩) (by assumption) ?_
  rotate_left
  · intro w hSw; (try dsimp only at hSw); go_simp; (try with_reducible rfl)
  (try simp only [Act.put, List.setIfInBounds_toArray, List.set_cons_zero, List.set_cons_succ])
  have y0 := Blk.cell Z5 0
  have y1 := Blk.cell Z5 1
  have y2 := Blk.cell Z5 2
  have yz0 := Blk.frozen Z5 0
  have yz1 := Blk.frozen Z5 1
  have yz2 := Blk.frozen Z5 2
  refine wpAnyH_ready (rs := [9]) (by kernel_rfl) (by simp) ?_
  refine AllReadyH.cons rfl (fun K hK => ?_) AllReadyH.nil
  go_simp
  have Q9 : BytesAt (((w5.setCell ⟨w.heap.size + 1, 0, none⟩ (.int .i64 W)).setCell ⟨w.heap.size + 1, 1, none⟩ (.int .i64 H)).setCell ⟨w.heap.size + 1, 2, none⟩ (.slice (some ⟨w2.heap.size, 0, none⟩) (4 * n) c5)) (some ⟨w2.heap.size, 0, none⟩) (4 * n) (flat L) := ((own5.far zne).far zne).far zne
  have P9 : RB (((w5.setCell ⟨w.heap.size + 1, 0, none⟩ (.int .i64 W)).setCell ⟨w.heap.size + 1, 1, none⟩ (.int .i64 H)).setCell ⟨w.heap.size + 1, 2, none⟩ (.slice (some ⟨w2.heap.size, 0, none⟩) (4 * n) c5)) w.heap.size W H q n c o := Blk.far (Blk.far (Blk.far R5 (by simp) _) (by simp) _) (by simp) _
  have R9 : Blk (((w5.setCell ⟨w.heap.size + 1, 0, none⟩ (.int .i64 W)).setCell ⟨w.heap.size + 1, 1, none⟩ (.int .i64 H)).setCell ⟨w.heap.size + 1, 2, none⟩ (.slice (some ⟨w2.heap.size, 0, none⟩) (4 * n) c5)) (w.heap.size + 1) 46 #[.int .i64 W, .int .i64 H, .slice (some ⟨w2.heap.size, 0, none⟩) (4 * n) c5] := ((Z5.set_ 0 _).set_ 1 _).set_ 2 _
  have B9 : Below w.heap.size w (((w5.setCell ⟨w.heap.size + 1, 0, none⟩ (.int .i64 W)).setCell ⟨w.heap.size + 1, 1, none⟩ (.int .i64 H)).setCell ⟨w.heap.size + 1, 2, none⟩ (.slice (some ⟨w2.heap.size, 0, none⟩) (4 * n) c5)) := below_set (below_set (below_set B5 (by omega)) (by omega)) (by omega)
  refine hK.out _ _ ⟨P9.c0, P9.c1, P9.c2⟩ (fun hHeld' => ?_)
  clear hK K hHeld y0 y1 y2 yz0 yz1 yz2
  refine wpAnyH_done (by kernel_rfl) ?_ _
  clear hHeld'
  change Exit.then _ _ _ _ (((w5.setCell ⟨w.heap.size + 1, 0, none⟩ (.int .i64 W)).setCell ⟨w.heap.size + 1, 1, none⟩ (.int .i64 H)).setCell ⟨w.heap.size + 1, 2, none⟩ (.slice (some ⟨w2.heap.size, 0, none⟩) (4 * n) c5))
  generalize (((w5.setCell ⟨w.heap.size + 1, 0, none⟩ (.int .i64 W)).setCell ⟨w.heap.size + 1, 1, none⟩ (.int .i64 H)).setCell ⟨w.heap.size + 1, 2, none⟩ (.slice (some ⟨w2.heap.size, 0, none⟩) (4 * n) c5)) = we at Q9 R9 B9 ⊢
  have r0 := Blk.cell R9 0
  have r1 := Blk.cell R9 1
  have r2 := Blk.cell R9 2
  go_wp2_with fail
  exact bodyPost_ret (v := .agg #[.int .i64 W, .int .i64 H, .slice (some ⟨w2.heap.size, 0, none⟩) (4 * n) c5]) (by simp [results, Try.results52, go_sem, r0, r1, r2]) rfl ⟨_, _, rfl, Q9, B9⟩
end Go.Proofs.Ytfgcbhcfekonnaa
