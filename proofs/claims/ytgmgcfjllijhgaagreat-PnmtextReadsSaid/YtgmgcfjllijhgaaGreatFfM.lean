/- The document's raster: Image. The document's image as api has it: Plain. A pixel of an image. append of one value of one cell onto a row that the call owns. A clone of an image. A pixel of an image, where there is one. A pixel of an image, the document's. awake of chapter 7. A pixel, in whole numbers; what the law keeps. strings.HasPrefix. HasPrefix; Wide. farbfeld: what a run by a wide budget tells; the document's Decode whole; heads; awake. farbfeld: awake; heads. The law FfDecodes. Arguments opened: slices of structs of one-cell fields; colours. farbfeld: a run by any budget. Arguments opened: a budget; a slice of the ledger's calls. The law FfBudgets: words. -/
import Derived.Test.YtgmgcfjllijhgaaGreatRasBytes
import Derived.Test.YtgmgcfjllijhgaaGreatRas
import Derived.Lib.ConvBytes
import Derived.Test.YtgmgcfjllijhgaaGreatFfRef
import Derived.Test.YtgmgcfjllijhgaaGreatWords
import Derived.Deep.OwnRows
import Derived.Lib.SliceRun
import Derived.BigRegion
import Derived.Deep.RegionHeld3
import Derived.Test.YtgmgcfjllijhgaaGreatRun
import Derived.Test.YtgmgcfjllijhgaaGreatFfE
import Derived.Test.YtgmgcfjllijhgaaGreatFfRef3
import Derived.Test.YtgmgcfjllijhgaaGreatProg
import Derived.ProofKit
import Derived.OpenShut
import Derived.Deep.Slices
import Derived.Deep.Fields
import Derived.ChangeSame
import Derived.Lib.SmallJoins
namespace Go.Proofs.YtgmgcfjllijhgaaGreat
open Go.RowKit
set_option linter.unusedVariables false
set_option linter.unusedSimpArgs false

/-- []byte(a text): one operation -/
theorem oper_convert_text {o : Oper} {a : Act} {w : World} {K : Act → World → Prop} {Q : Exit → Act → World → Prop}
    (x : Operand) (ho : o.op = .convert 9 30 x) (l : List UInt8) (hx : a.eval x = .string (strOf l))
    (h : ∀ c w', BytesAt w' (some ⟨w.heap.size, 0, none⟩) l.length l → Below w.heap.size w w' → K (a.put o.dst (.slice (some ⟨w.heap.size, 0, none⟩) l.length c)) w') : Oper.wp Tryz.prog o a w K Q := by
  have hr := Go.Lib.run_convert_string_bytes (P := Tryz.prog) w 9 30 5 (strOf l) Tryz.underlying9 Tryz.underlying30 Tryz.underlying5
  have hz : (strOf l).size = l.length := by rw [size_list', strOf_data]
  unfold Oper.wp
  simp only [execOp, ho, hx, Sem.run_bind, Sem.run_pure, Result.andThen_ok, hr]
  rw [hz]
  refine h _ _ ⟨rfl, .inr ⟨_, _, rfl, fun j hj => ?_⟩⟩ ⟨rfl, rfl, rfl, by rw [Go.Lib.bytesWorld_size]; omega, fun k hk => Go.Lib.bytesWorld_at_old _ _ _ k hk⟩
  rw [Nat.zero_add, Go.Lib.bytesWorld_cell _ _ _ j (by rw [hz]; exact hj), strOf_data, List.getD_eq_getElem?_getD, List.getElem?_eq_getElem hj]
  rfl
theorem BytesAt.far {w : World} {b off n k i : Nat} {u : Value} {l : List UInt8} (h : BytesAt w (some ⟨b, off, none⟩) n l) (hk : b ≠ k) : BytesAt (w.setCell ⟨k, i, none⟩ u) (some ⟨b, off, none⟩) n l := by
  obtain ⟨h1, h0 | ⟨b', off', e, hc⟩⟩ := h
  · exact ⟨h1, .inl h0⟩
  · simp only [Option.some.injEq, Addr.mk.injEq] at e
    obtain ⟨rfl, rfl, _⟩ := e
    exact ⟨h1, .inr ⟨b, off, rfl, fun j hj => (World.cell?_of_block (Below.heap_setCell w ⟨k, i, none⟩ u b hk)).trans (hc j hj)⟩⟩
end Go.Proofs.YtgmgcfjllijhgaaGreat
namespace Go.Proofs.YtgmgcfjllijhgaaGreat
open Go.RowKit
set_option linter.unusedVariables false
set_option linter.unusedSimpArgs false

set_option maxRecDepth 100000 in
set_option maxHeartbeats 4000000 in
theorem refPlain {w : World} {W H fk fa : Int} {q n c : Nat} {L : List Qc} (hn : n = L.length) (hc : n ≤ c) (hb : n ≤ 268435456) (h : QAt w q 0 L) :
    Calls Tryz.prog 13 #[.agg #[.int .i64 W, .int .i64 H, .slice (some ⟨q, 0, none⟩) n c, .int .i64 fk, .int .i64 fa]] w fun e w' => ∃ d c', e = .returned (.agg #[.int .i64 W, .int .i64 H, .slice (some ⟨d, 0, none⟩) (4 * n) c']) ∧ BytesAt w' (some ⟨d, 0, none⟩) (4 * n) (flat L) ∧ Below w.heap.size w w' := by
  obtain ⟨wA, hwA⟩ : ∃ wA, wA = ((w.alloc (.cells #[.int .i64 W, .int .i64 H, .slice (some ⟨q, 0, none⟩) n c, .int .i64 fk, .int .i64 fa] 28)).alloc (.cells #[.int .i64 0, .int .i64 0, .slice none 0 0] 32)) := ⟨_, rfl⟩
  have HI : Hid (RI wA w.heap.size W H (.slice (some ⟨q, 0, none⟩) n c) fk fa ∧ Blk wA (w.heap.size + 1) 32 #[.int .i64 0, .int .i64 0, .slice none 0 0] ∧ Below w.heap.size w wA) := Lib.hid (by
    subst hwA
    exact ⟨(Blk.new _ _ _).alloc _, Blk.new_at _ _ _ (by simp), ((Below.refl _ _).alloc (Nat.le_refl _) _).alloc (by simp) _⟩)
  have HBY := Lib.hid (refBytes7 (w := wA.drew) hn hc hb (show QAt wA.drew q 0 L from QAt.below' (w' := wA) h HI.out.2.2))
  have HN := Lib.hid hn
  clear hn h
  go_enter Tryz.func13, Tryz.ntmps13
  go_wp2_with fail
  change Code.wp _ _ _ _ ((w.alloc (.cells #[.int .i64 W, .int .i64 H, .slice (some ⟨q, 0, none⟩) n c, .int .i64 fk, .int .i64 fa] 28)).alloc (.cells #[.int .i64 0, .int .i64 0, .slice none 0 0] 32))
  rw [← hwA]
  clear hwA
  have c0 := HI.out.1.all.1
  have c1 := HI.out.1.all.2.1
  have c2 := HI.out.1.all.2.2.1
  have zA := HI.out.2.2.size
  refine wp_region_held_drew (S := (fun w' => w'.cell? ⟨w.heap.size, 0, none⟩ = some (.int .i64 W) ∧ w'.cell? ⟨w.heap.size, 1, none⟩ = some (.int .i64 H) ∧ w'.cell? ⟨w.heap.size, 2, none⟩ = some (.slice (some ⟨q, 0, none⟩) n c))) (by kernel_rfl) ⟨c0, c1, c2⟩ (fun hHeld => ?_)
  refine wpAnyH_take (i := 0) (v := ?_) rfl (by kernel_rfl) (by kernel_rfl) (by kernel_rfl) (fun _ _ _ h => h) (Or.inl ⟨by kernel_rfl, ?_⟩) (by assumption) ?_
  rotate_left
  · intro w hSw; (try dsimp only at hSw); go_simp; (try with_reducible rfl)
  (try simp only [Act.put, List.setIfInBounds_toArray, List.set_cons_zero, List.set_cons_succ])
  refine wpAnyH_take (i := 1) (v := ?_) rfl (by kernel_rfl) (by kernel_rfl) (by kernel_rfl) (fun _ _ _ h => h) (Or.inl ⟨by kernel_rfl, ?_⟩) (by assumption) ?_
  rotate_left
  · intro w hSw; (try dsimp only at hSw); go_simp; (try with_reducible rfl)
  (try simp only [Act.put, List.setIfInBounds_toArray, List.set_cons_zero, List.set_cons_succ])
  refine wpAnyH_take (i := 2) (v := ?_) rfl (by kernel_rfl) (by kernel_rfl) (by kernel_rfl) (fun _ _ _ h => h) (Or.inl ⟨by kernel_rfl, ?_⟩) (by assumption) ?_
  rotate_left
  · intro w hSw; (try dsimp only at hSw); go_simp; (try with_reducible rfl)
  (try simp only [Act.put, List.setIfInBounds_toArray, List.set_cons_zero, List.set_cons_succ])
  refine wpAnyH_take (i := 3) (v := ?_) rfl (by kernel_rfl) (by kernel_rfl) (by kernel_rfl) (fun _ _ _ h => h) (Or.inl ⟨by kernel_rfl, ?_⟩) (by assumption) ?_
  rotate_left
  · intro w hSw; (try dsimp only at hSw); go_simp; (try with_reducible rfl)
  (try simp only [Act.put, List.setIfInBounds_toArray, List.set_cons_zero, List.set_cons_succ])
  refine wpAnyH_take (i := 4) (v := ?_) rfl (by kernel_rfl) (by kernel_rfl) (by kernel_rfl) (fun _ _ _ h => h) (Or.inl ⟨by kernel_rfl, ?_⟩) (by assumption) ?_
  rotate_left
  · intro w hSw; (try dsimp only at hSw); go_simp; (try with_reducible rfl)
  (try simp only [Act.put, List.setIfInBounds_toArray, List.set_cons_zero, List.set_cons_succ])
  refine wpAnyH_take (i := 5) (v := ?_) rfl (by kernel_rfl) (by kernel_rfl) (by kernel_rfl) (fun _ _ _ h => h) (Or.inl ⟨by kernel_rfl, ?_⟩) (by assumption) ?_
  rotate_left
  · intro w hSw; (try dsimp only at hSw); go_simp; (try with_reducible rfl)
  (try simp only [Act.put, List.setIfInBounds_toArray, List.set_cons_zero, List.set_cons_succ])
  refine wpAnyH_ready (rs := [6]) (by kernel_rfl) (by simp) ?_
  refine AllReadyH.cons rfl (fun K hK => ?_) AllReadyH.nil
  go_simp
  refine HBY.out.mono ?_
  rintro e w2 ⟨rfl, b2⟩
  have R2 : RI w2 w.heap.size W H (.slice (some ⟨q, 0, none⟩) n c) fk fa := Blk.below (Blk.drew HI.out.1) b2 (Blk.lt HI.out.1)
  have B2 := HI.out.2.2.drew.trans (b2.mono zA)
  refine hK.out _ _ ⟨R2.all.1, R2.all.2.1, R2.all.2.2.1⟩ (fun hHeld' => ?_)
  clear hK K hHeld
  (try simp only [Act.put, List.setIfInBounds_toArray, List.set_cons_zero, List.set_cons_succ])
  refine wpAnyH_ready (rs := [7]) (by kernel_rfl) (by simp) ?_
  refine AllReadyH.cons rfl (fun K hK => ?_) AllReadyH.nil
  refine oper_convert_text (.tmp 9) rfl (flat L) rfl ?_
  intro c5 w5 own5 b5
  rw [flat_len, ← HN.out] at own5 ⊢
  have B5 := B2.trans (b5.mono (by have := B2.size; omega))
  have R5 : RI w5 w.heap.size W H (.slice (some ⟨q, 0, none⟩) n c) fk fa := Blk.below R2 b5 (Blk.lt R2)
  have Z2 : Blk w2 (w.heap.size + 1) 32 #[.int .i64 0, .int .i64 0, .slice none 0 0] := Blk.below (Blk.drew HI.out.2.1) b2 HI.out.2.1.lt
  have zne : w2.heap.size ≠ w.heap.size + 1 := by have := Z2.lt; omega
  have Z5 : Blk w5 (w.heap.size + 1) 32 #[.int .i64 0, .int .i64 0, .slice none 0 0] := Blk.below Z2 b5 Z2.lt
  refine hK.out _ _ ⟨R5.all.1, R5.all.2.1, R5.all.2.2.1⟩ (fun hHeld => ?_)
  clear hK K hHeld'
  (try simp only [Act.put, List.setIfInBounds_toArray, List.set_cons_zero, List.set_cons_succ])
  refine wpAnyH_take (i := 8) (v := ?_) rfl (by kernel_rfl) (by kernel_rfl) (by kernel_rfl) (fun _ _ _ h => h) (Or.inl ⟨by kernel_rfl, ?_⟩) (by assumption) ?_
  rotate_left
  · intro w hSw; (try dsimp only at hSw); go_simp; (try with_reducible rfl)
  (try simp only [Act.put, List.setIfInBounds_toArray, List.set_cons_zero, List.set_cons_succ])
  have y0 := Blk.cell Z5 0
  have y1 := Blk.cell Z5 1
  have y2 := Blk.cell Z5 2
  have yz0 := Blk.frozen Z5 0
  have yz1 := Blk.frozen Z5 1
  have yz2 := Blk.frozen Z5 2
  refine wpAnyH_ready (rs := [9]) (by kernel_rfl) (by simp) ?_
  refine AllReadyH.cons rfl (fun K hK => ?_) AllReadyH.nil
  go_simp
  have Q9 : BytesAt (((w5.setCell ⟨w.heap.size + 1, 0, none⟩ (.int .i64 W)).setCell ⟨w.heap.size + 1, 1, none⟩ (.int .i64 H)).setCell ⟨w.heap.size + 1, 2, none⟩ (.slice (some ⟨w2.heap.size, 0, none⟩) (4 * n) c5)) (some ⟨w2.heap.size, 0, none⟩) (4 * n) (flat L) := ((own5.far zne).far zne).far zne
  have P9 : RI (((w5.setCell ⟨w.heap.size + 1, 0, none⟩ (.int .i64 W)).setCell ⟨w.heap.size + 1, 1, none⟩ (.int .i64 H)).setCell ⟨w.heap.size + 1, 2, none⟩ (.slice (some ⟨w2.heap.size, 0, none⟩) (4 * n) c5)) w.heap.size W H (.slice (some ⟨q, 0, none⟩) n c) fk fa := Blk.far (Blk.far (Blk.far R5 (by simp) _) (by simp) _) (by simp) _
  have R9 : Blk (((w5.setCell ⟨w.heap.size + 1, 0, none⟩ (.int .i64 W)).setCell ⟨w.heap.size + 1, 1, none⟩ (.int .i64 H)).setCell ⟨w.heap.size + 1, 2, none⟩ (.slice (some ⟨w2.heap.size, 0, none⟩) (4 * n) c5)) (w.heap.size + 1) 32 #[.int .i64 W, .int .i64 H, .slice (some ⟨w2.heap.size, 0, none⟩) (4 * n) c5] := ((Z5.set_ 0 _).set_ 1 _).set_ 2 _
  have B9 : Below w.heap.size w (((w5.setCell ⟨w.heap.size + 1, 0, none⟩ (.int .i64 W)).setCell ⟨w.heap.size + 1, 1, none⟩ (.int .i64 H)).setCell ⟨w.heap.size + 1, 2, none⟩ (.slice (some ⟨w2.heap.size, 0, none⟩) (4 * n) c5)) := below_set (below_set (below_set B5 (by omega)) (by omega)) (by omega)
  refine hK.out _ _ ⟨P9.all.1, P9.all.2.1, P9.all.2.2.1⟩ (fun hHeld' => ?_)
  clear hK K hHeld y0 y1 y2 yz0 yz1 yz2
  refine wpAnyH_done (by kernel_rfl) ?_ _
  clear hHeld'
  change Exit.then _ _ _ _ (((w5.setCell ⟨w.heap.size + 1, 0, none⟩ (.int .i64 W)).setCell ⟨w.heap.size + 1, 1, none⟩ (.int .i64 H)).setCell ⟨w.heap.size + 1, 2, none⟩ (.slice (some ⟨w2.heap.size, 0, none⟩) (4 * n) c5))
  generalize (((w5.setCell ⟨w.heap.size + 1, 0, none⟩ (.int .i64 W)).setCell ⟨w.heap.size + 1, 1, none⟩ (.int .i64 H)).setCell ⟨w.heap.size + 1, 2, none⟩ (.slice (some ⟨w2.heap.size, 0, none⟩) (4 * n) c5)) = we at Q9 R9 B9 ⊢
  have r0 := Blk.cell R9 0
  have r1 := Blk.cell R9 1
  have r2 := Blk.cell R9 2
  go_wp2_with fail
  exact bodyPost_ret (v := .agg #[.int .i64 W, .int .i64 H, .slice (some ⟨w2.heap.size, 0, none⟩) (4 * n) c5]) (by simp [results, Tryz.results13, go_sem, r0, r1, r2]) rfl ⟨_, _, rfl, Q9, B9⟩
end Go.Proofs.YtgmgcfjllijhgaaGreat
namespace Go.Proofs.YtgmgcfjllijhgaaGreat
open Go.RowKit
set_option linter.unusedVariables false
set_option linter.unusedSimpArgs false

/-- is there such a pixel? -/
def HasP (W H : Int) (n : Nat) (X Y : Int) : Prop := RightP W H n ∧ (0 ≤ X ∧ X < W) ∧ (0 ≤ Y ∧ Y < H)
set_option maxRecDepth 100000 in
set_option maxHeartbeats 1000000 in
theorem pixel_no {W H X Y : Int} {a : Option Addr} {n c : Nat} {w : World} (hno : ¬ HasP W H n X Y) : Calls Tryz.prog 42 #[.agg #[.int .i64 W, .int .i64 H, .slice a n c], .int .i64 X, .int .i64 Y] w fun e w' => e = .returned (.tuple #[.agg #[.int .u8 0, .int .u8 0, .int .u8 0, .int .u8 0], .bool false]) ∧ Below w.heap.size w w' := by
  have I0 : Blk ((w.alloc (.cells #[.int .i64 W, .int .i64 H, .slice a n c] 32)).alloc (.cells #[.int .u8 0, .int .u8 0, .int .u8 0, .int .u8 0] 59)) w.heap.size 32 #[.int .i64 W, .int .i64 H, .slice a n c] := (Blk.new _ _ _).alloc _
  have R0 : CB ((w.alloc (.cells #[.int .i64 W, .int .i64 H, .slice a n c] 32)).alloc (.cells #[.int .u8 0, .int .u8 0, .int .u8 0, .int .u8 0] 59)) (w.heap.size + 1) 0 0 0 0 := Blk.new_at _ _ _ (by simp)
  have B0 : Below w.heap.size w ((w.alloc (.cells #[.int .i64 W, .int .i64 H, .slice a n c] 32)).alloc (.cells #[.int .u8 0, .int .u8 0, .int .u8 0, .int .u8 0] 59)) := ((Below.refl _ _).alloc (Nat.le_refl _) _).alloc (by simp) _
  have key : ∀ (b : Bool), decide (RightP W H n) = b → (b = true → ¬ ((0 ≤ X ∧ X < W) ∧ (0 ≤ Y ∧ Y < H))) → Calls Tryz.prog 42 #[.agg #[.int .i64 W, .int .i64 H, .slice a n c], .int .i64 X, .int .i64 Y] w fun e w' => e = .returned (.tuple #[.agg #[.int .u8 0, .int .u8 0, .int .u8 0, .int .u8 0], .bool false]) ∧ Below w.heap.size w w' := by
    intro b hb hq
    have HR := Lib.hid (fun w => hb ▸ right_any W H a n c w)
    clear hb
    cases b
    · clear hq
      go_enter Tryz.func42, Tryz.ntmps42
      go_wp2_with (go_at_call 71; refine (HR.out _).mono ?_; rintro e w1 ⟨rfl, b1⟩; have I1 := Blk.below I0 b1 (Blk.lt I0); have R1 : CB w1 (w.heap.size + 1) 0 0 0 0 := Blk.below R0 b1 (Blk.lt R0); have B1 := below_next B0 b1; have i0 : w1.cell? ⟨w.heap.size, 0, none⟩ = some (.int .i64 W) := Blk.cell I1 0; have i1 : w1.cell? ⟨w.heap.size, 1, none⟩ = some (.int .i64 H) := Blk.cell I1 1; have i2 : w1.cell? ⟨w.heap.size, 2, none⟩ = some (.slice a n c) := Blk.cell I1 2; have r0 := R1.c0; have r1 := R1.c1; have r2 := R1.c2; have r3 := R1.c3; have z0 := Blk.frozen R1 0; have z1 := Blk.frozen R1 1; have z2 := Blk.frozen R1 2; have z3 := Blk.frozen R1 3; have lr := Blk.lt R1)
      have fz : CB (st4 w1 (w.heap.size + 1) 0 0 0 0) (w.heap.size + 1) 0 0 0 0 := R1.store
      have tz : Below w.heap.size w (st4 w1 (w.heap.size + 1) 0 0 0 0) := Below.st4 B1 (by omega)
      change bodyPost _ _ _ _ _ (st4 w1 (w.heap.size + 1) 0 0 0 0)
      generalize (st4 w1 (w.heap.size + 1) 0 0 0 0) = we at fz tz ⊢
      have q0 := fz.c0
      have q1 := fz.c1
      have q2 := fz.c2
      have q3 := fz.c3
      exact bodyPost_ret (v := .tuple #[.agg #[.int .u8 0, .int .u8 0, .int .u8 0, .int .u8 0], .bool false]) (by simp [results, Tryz.results42, go_sem, q0, q1, q2, q3]) rfl ⟨rfl, tz⟩
    · have hq := hq rfl
      by_cases x0 : X < 0
      · clear hq
        go_enter Tryz.func42, Tryz.ntmps42
        go_wp2_with (go_at_call 71; refine (HR.out _).mono ?_; rintro e w1 ⟨rfl, b1⟩; have I1 := Blk.below I0 b1 (Blk.lt I0); have R1 : CB w1 (w.heap.size + 1) 0 0 0 0 := Blk.below R0 b1 (Blk.lt R0); have B1 := below_next B0 b1; have i0 : w1.cell? ⟨w.heap.size, 0, none⟩ = some (.int .i64 W) := Blk.cell I1 0; have i1 : w1.cell? ⟨w.heap.size, 1, none⟩ = some (.int .i64 H) := Blk.cell I1 1; have i2 : w1.cell? ⟨w.heap.size, 2, none⟩ = some (.slice a n c) := Blk.cell I1 2; have r0 := R1.c0; have r1 := R1.c1; have r2 := R1.c2; have r3 := R1.c3; have z0 := Blk.frozen R1 0; have z1 := Blk.frozen R1 1; have z2 := Blk.frozen R1 2; have z3 := Blk.frozen R1 3; have lr := Blk.lt R1)
        have fz : CB (st4 w1 (w.heap.size + 1) 0 0 0 0) (w.heap.size + 1) 0 0 0 0 := R1.store
        have tz : Below w.heap.size w (st4 w1 (w.heap.size + 1) 0 0 0 0) := Below.st4 B1 (by omega)
        change bodyPost _ _ _ _ _ (st4 w1 (w.heap.size + 1) 0 0 0 0)
        generalize (st4 w1 (w.heap.size + 1) 0 0 0 0) = we at fz tz ⊢
        have q0 := fz.c0
        have q1 := fz.c1
        have q2 := fz.c2
        have q3 := fz.c3
        exact bodyPost_ret (v := .tuple #[.agg #[.int .u8 0, .int .u8 0, .int .u8 0, .int .u8 0], .bool false]) (by simp [results, Tryz.results42, go_sem, q0, q1, q2, q3]) rfl ⟨rfl, tz⟩
      by_cases x1 : W ≤ X
      · clear hq
        go_enter Tryz.func42, Tryz.ntmps42
        go_wp2_with (go_at_call 71; refine (HR.out _).mono ?_; rintro e w1 ⟨rfl, b1⟩; have I1 := Blk.below I0 b1 (Blk.lt I0); have R1 : CB w1 (w.heap.size + 1) 0 0 0 0 := Blk.below R0 b1 (Blk.lt R0); have B1 := below_next B0 b1; have i0 : w1.cell? ⟨w.heap.size, 0, none⟩ = some (.int .i64 W) := Blk.cell I1 0; have i1 : w1.cell? ⟨w.heap.size, 1, none⟩ = some (.int .i64 H) := Blk.cell I1 1; have i2 : w1.cell? ⟨w.heap.size, 2, none⟩ = some (.slice a n c) := Blk.cell I1 2; have r0 := R1.c0; have r1 := R1.c1; have r2 := R1.c2; have r3 := R1.c3; have z0 := Blk.frozen R1 0; have z1 := Blk.frozen R1 1; have z2 := Blk.frozen R1 2; have z3 := Blk.frozen R1 3; have lr := Blk.lt R1)
        have fz : CB (st4 w1 (w.heap.size + 1) 0 0 0 0) (w.heap.size + 1) 0 0 0 0 := R1.store
        have tz : Below w.heap.size w (st4 w1 (w.heap.size + 1) 0 0 0 0) := Below.st4 B1 (by omega)
        change bodyPost _ _ _ _ _ (st4 w1 (w.heap.size + 1) 0 0 0 0)
        generalize (st4 w1 (w.heap.size + 1) 0 0 0 0) = we at fz tz ⊢
        have q0 := fz.c0
        have q1 := fz.c1
        have q2 := fz.c2
        have q3 := fz.c3
        exact bodyPost_ret (v := .tuple #[.agg #[.int .u8 0, .int .u8 0, .int .u8 0, .int .u8 0], .bool false]) (by simp [results, Tryz.results42, go_sem, q0, q1, q2, q3]) rfl ⟨rfl, tz⟩
      by_cases y0 : Y < 0
      · clear hq
        go_enter Tryz.func42, Tryz.ntmps42
        go_wp2_with (go_at_call 71; refine (HR.out _).mono ?_; rintro e w1 ⟨rfl, b1⟩; have I1 := Blk.below I0 b1 (Blk.lt I0); have R1 : CB w1 (w.heap.size + 1) 0 0 0 0 := Blk.below R0 b1 (Blk.lt R0); have B1 := below_next B0 b1; have i0 : w1.cell? ⟨w.heap.size, 0, none⟩ = some (.int .i64 W) := Blk.cell I1 0; have i1 : w1.cell? ⟨w.heap.size, 1, none⟩ = some (.int .i64 H) := Blk.cell I1 1; have i2 : w1.cell? ⟨w.heap.size, 2, none⟩ = some (.slice a n c) := Blk.cell I1 2; have r0 := R1.c0; have r1 := R1.c1; have r2 := R1.c2; have r3 := R1.c3; have z0 := Blk.frozen R1 0; have z1 := Blk.frozen R1 1; have z2 := Blk.frozen R1 2; have z3 := Blk.frozen R1 3; have lr := Blk.lt R1)
        have fz : CB (st4 w1 (w.heap.size + 1) 0 0 0 0) (w.heap.size + 1) 0 0 0 0 := R1.store
        have tz : Below w.heap.size w (st4 w1 (w.heap.size + 1) 0 0 0 0) := Below.st4 B1 (by omega)
        change bodyPost _ _ _ _ _ (st4 w1 (w.heap.size + 1) 0 0 0 0)
        generalize (st4 w1 (w.heap.size + 1) 0 0 0 0) = we at fz tz ⊢
        have q0 := fz.c0
        have q1 := fz.c1
        have q2 := fz.c2
        have q3 := fz.c3
        exact bodyPost_ret (v := .tuple #[.agg #[.int .u8 0, .int .u8 0, .int .u8 0, .int .u8 0], .bool false]) (by simp [results, Tryz.results42, go_sem, q0, q1, q2, q3]) rfl ⟨rfl, tz⟩
      have y1 : H ≤ Y := by omega
      clear hq
      go_enter Tryz.func42, Tryz.ntmps42
      go_wp2_with (go_at_call 71; refine (HR.out _).mono ?_; rintro e w1 ⟨rfl, b1⟩; have I1 := Blk.below I0 b1 (Blk.lt I0); have R1 : CB w1 (w.heap.size + 1) 0 0 0 0 := Blk.below R0 b1 (Blk.lt R0); have B1 := below_next B0 b1; have i0 : w1.cell? ⟨w.heap.size, 0, none⟩ = some (.int .i64 W) := Blk.cell I1 0; have i1 : w1.cell? ⟨w.heap.size, 1, none⟩ = some (.int .i64 H) := Blk.cell I1 1; have i2 : w1.cell? ⟨w.heap.size, 2, none⟩ = some (.slice a n c) := Blk.cell I1 2; have r0 := R1.c0; have r1 := R1.c1; have r2 := R1.c2; have r3 := R1.c3; have z0 := Blk.frozen R1 0; have z1 := Blk.frozen R1 1; have z2 := Blk.frozen R1 2; have z3 := Blk.frozen R1 3; have lr := Blk.lt R1)
      have fz : CB (st4 w1 (w.heap.size + 1) 0 0 0 0) (w.heap.size + 1) 0 0 0 0 := R1.store
      have tz : Below w.heap.size w (st4 w1 (w.heap.size + 1) 0 0 0 0) := Below.st4 B1 (by omega)
      change bodyPost _ _ _ _ _ (st4 w1 (w.heap.size + 1) 0 0 0 0)
      generalize (st4 w1 (w.heap.size + 1) 0 0 0 0) = we at fz tz ⊢
      have q0 := fz.c0
      have q1 := fz.c1
      have q2 := fz.c2
      have q3 := fz.c3
      exact bodyPost_ret (v := .tuple #[.agg #[.int .u8 0, .int .u8 0, .int .u8 0, .int .u8 0], .bool false]) (by simp [results, Tryz.results42, go_sem, q0, q1, q2, q3]) rfl ⟨rfl, tz⟩
  by_cases h : RightP W H n
  · exact key true (decide_eq_true h) (fun _ q => hno ⟨h, q⟩)
  · exact key false (decide_eq_false h) (fun e => absurd e (by decide))
end Go.Proofs.YtgmgcfjllijhgaaGreat
namespace Go.Proofs.YtgmgcfjllijhgaaGreat
open Go.RowKit
set_option linter.unusedVariables false

/-- the slice value v owns the values l, in a block from base on -/
def Owns1 (w : World) (base : Nat) (e : TypeId) (v : Value) (l : List Value) : Prop := w.ownsRow base e 1 v l.length l

section
variable {w w' : World} {base : Nat} {e : TypeId} {v : Value} {l : List Value}
theorem Owns1.nil (w : World) (base : Nat) (e : TypeId) : Owns1 w base e (.slice none 0 0) [] := World.ownsRow_nil _ _ _ _
theorem Owns1.alloc (h : Owns1 w base e v l) (o : Obj) : Owns1 (w.alloc o) base e v l := World.ownsRow.alloc h o
theorem Owns1.drew (h : Owns1 w base e v l) : Owns1 w.drew base e v l := h
theorem Owns1.drewN (h : Owns1 w base e v l) (n : Nat) : Owns1 (w.drewN n) base e v l := h
theorem Owns1.kept {row : Option Nat} (h : Owns1 w base e v l) (hg : w.grownBy w' row) (hne : v.ownBlock = none ∨ v.ownBlock ≠ row) : Owns1 w' base e v l := World.ownsRow.kept h hg hne
theorem Owns1.below (h : Owns1 w base e v l) {a : World} {B : Nat} (hb : Below B a w) (hB : B ≤ base) (hw : base ≤ w.heap.size) (hg : w.grownBy w' v.ownBlock) : Below B a w' :=
  hb.grown hg (Nat.le_trans hB hw) fun k hk => Nat.le_trans hB (World.ownsRow.lt h k hk).1
theorem Owns1.stays {B : Nat} (h : Owns1 w base e v l) (hb : Below B w w') (hB : w.heap.size ≤ B) : Owns1 w' base e v l :=
  h.kept (row := none) ⟨hb.os, hb.tape, hb.output, hb.size, fun i hi _ => hb.block i (by omega)⟩ (by cases v.ownBlock <;> simp)
/-- the slice's cells -/
theorem Owns1.form (h : Owns1 w base e v l) : (v = .slice none 0 0 ∧ l = []) ∨ ∃ g cap, v = .slice (some ⟨g, 0, none⟩) l.length cap ∧ base ≤ g ∧ g < w.heap.size ∧ l.length ≤ cap ∧ cap ≤ maxLen ∧ ∀ j, j < l.length → w.cell? ⟨g, j, none⟩ = l[j]? := by
  rcases h.2 with ⟨rfl, hn⟩ | ⟨g, cap, cur, rfl, hb, hg, hc, hm, hs, ht⟩
  · exact .inl ⟨rfl, List.eq_nil_of_length_eq_zero hn⟩
  · refine .inr ⟨g, cap, rfl, hb, (World.ownsRow.lt h g rfl).2, hc, hm, fun j hj => ?_⟩
    rw [cell_of_row w g j cur e (0, 0) hg, ← Array.getElem?_toList]
    have : l[j]? = (cur.toList.take (l.length * 1))[j]? := by rw [ht]
    rw [this, List.getElem?_take_of_lt (by omega)]
end

/-- append of one value, laid in a new cell -/
theorem wpList_append_one {ops : Array Oper} {rest : List Oper} {o : Oper} {a : Act} {Q : Exit → Act → World → Prop} {w : World} (hgd : o.guard = none) (s x : Operand) (t e : TypeId)
    (ho : o.op = .call { callee := .builtin .append, args := #[s, x], argTypes := #[t, t] })
    (z : Value) (nb : Nat) (ht : Tryz.prog.underlying t = some (.slice e)) (hinfo : (Tryz.prog.info? e).map (fun i => (i.zero, i.size, i.bytes)) = some (some z, 1, nb)) (hz1 : z.cells.size = 1) (hnb : nb ≤ 16)
    (base : Nat) (v : Value) (l : List Value) (hs : a.eval s = v) (hown : Owns1 w base e v l)
    (g : Addr) (hx : a.eval x = .slice (some g) 1 1) (u : Value) (hc : w.cell? g = some u) (hu : u.oneCell' = true)
    (hlen : l.length < 1099511627776) (hbase : base ≤ w.heap.size)
    (h : ∀ v' w', Owns1 w' base e v' (l ++ [u]) → Below base w w' → w.grownBy w' v.ownBlock → wpList Tryz.prog ops Q rest (a.put o.dst v') w') : wpList Tryz.prog ops Q (o :: rest) a w := by
  obtain ⟨i0, hi, hz0, hzs, hzb⟩ := info_parts hinfo
  refine wpList_append_own (P := Tryz.prog) w hgd s x t ho base e i0 z 1 nb ht hi hz0 hzs hzb hz1 (by decide) v l.length l hs hown g 1 1 [u] hx rfl ?_ ?_ (by unfold maxLen; omega) ?_ hbase ?_
  · intro j u' hj
    cases j with
    | zero => simp at hj; subst hj; simpa [Addr.add] using hc
    | succ j => simp at hj
  · intro u' hu'; simp at hu'; subst hu'; exact hu
  · have : (l.length + 1) * nb ≤ 1099511627776 * 16 := Nat.mul_le_mul (by omega) hnb
    omega
  · intro v' w' h1 h2 _
    refine h v' w' ?_ (hown.below (Below.refl _ _) (Nat.le_refl _) hbase h2) h2
    show World.ownsRow _ _ _ _ _ _ _
    simpa using h1
end Go.Proofs.YtgmgcfjllijhgaaGreat
namespace Go.Proofs.YtgmgcfjllijhgaaGreat
open Go.RowKit
set_option linter.unusedVariables false
set_option linter.unusedSimpArgs false

def V8 (l : List UInt8) : List Value := l.map fun b => .int .u8 (b.toNat : Int)
theorem ownsBytes {w : World} {base n : Nat} {e : TypeId} {v : Value} {l : List UInt8} (hl : n = l.length) (h : w.ownsRow base e 1 v n (V8 l)) : ∃ a c, v = .slice a n c ∧ BytesAt w a n l ∧ ∀ b off, a = some ⟨b, off, none⟩ → base ≤ b := by
  have hn : (V8 l).length = n := by rw [hl]; simp [V8]
  have h' : Owns1 w base e v (V8 l) := by unfold Owns1; rw [hn]; exact h
  rcases h'.form with ⟨rfl, h0⟩ | ⟨g, cap, rfl, hg, _, _, _, hc⟩
  · have : n = 0 := by rw [← hn, h0]; rfl
    subst this
    exact ⟨none, 0, rfl, ⟨hl, .inl rfl⟩, fun _ _ e => by cases e⟩
  · refine ⟨some ⟨g, 0, none⟩, cap, by rw [hn], ⟨hl, .inr ⟨g, 0, rfl, fun j hj => ?_⟩⟩, fun b off e => by cases e; exact hg⟩
    rw [Nat.zero_add, hc j (by omega)]
    simp [V8, List.getElem?_eq_getElem hj]
theorem BytesAt.set {w : World} {a : Option Addr} {n : Nat} {l : List UInt8} (h : BytesAt w a n l) (k i : Nat) (u : Value) (hk : ∀ b off, a = some ⟨b, off, none⟩ → b ≠ k) : BytesAt (w.setCell ⟨k, i, none⟩ u) a n l := by
  obtain ⟨h1, h0 | ⟨b, off, rfl, hc⟩⟩ := h
  · exact ⟨h1, .inl h0⟩
  · exact ⟨h1, .inr ⟨b, off, rfl, fun j hj => (World.cell?_of_block (Below.heap_setCell w ⟨k, i, none⟩ u b (hk b off rfl))).trans (hc j hj)⟩⟩
end Go.Proofs.YtgmgcfjllijhgaaGreat
namespace Go.Proofs.YtgmgcfjllijhgaaGreat
open Go.RowKit
set_option linter.unusedVariables false
set_option linter.unusedSimpArgs false

theorem right_true {W H : Int} {a : Option Addr} {n c : Nat} (h : RightP W H n) (w : World) : Calls Tryz.prog 71 #[.agg #[.int .i64 W, .int .i64 H, .slice a n c]] w fun e w' => e = .returned (.bool true) ∧ Below w.heap.size w w' := by
  have := right_any W H a n c w
  rw [decide_eq_true h] at this
  exact this
set_option maxRecDepth 100000 in
set_option maxHeartbeats 400000 in
theorem pixel_yes {W H X Y p i : Nat} {bb off n c : Nat} {l : List UInt8} {c0 c1 c2 c3 : UInt8} {w : World} (hr : RightP (W : Int) (H : Int) n) (hl : n = l.length) (hc : ∀ j (hj : j < l.length), w.cell? ⟨bb, off + j, none⟩ = some (.int .u8 (l[j].toNat : Int))) (hnc : n ≤ c) (hX : X < W) (hY : Y < H) (hp : Y * W = p) (hi : 4 * (p + X) = i) (hin : i + 4 ≤ n) (hq : (l.drop i).take 4 = [c0, c1, c2, c3]) :
    Calls Tryz.prog 42 #[.agg #[.int .i64 (W : Int), .int .i64 (H : Int), .slice (some ⟨bb, off, none⟩) n c], .int .i64 (X : Int), .int .i64 (Y : Int)] w fun e w' => e = .returned (.tuple #[.agg #[.int .u8 (c0.toNat : Int), .int .u8 (c1.toNat : Int), .int .u8 (c2.toNat : Int), .int .u8 (c3.toNat : Int)], .bool true]) ∧ Below w.heap.size w w' := by
  have hw := hr.1
  have hh := hr.2.1
  have hpb : p ≤ 16384 * 16384 := by rw [← hp]; exact Nat.mul_le_mul (by omega) (by omega)
  have at_ : ∀ j, j < 4 → ∃ h : j < [c0, c1, c2, c3].length, w.cell? ⟨bb, off + (i + j), none⟩ = some (.int .u8 (([c0, c1, c2, c3][j]'h).toNat : Int)) := by
    intro j hj
    refine ⟨by simpa using hj, ?_⟩
    rw [hc (i + j) (by omega)]
    have e : l[i + j]'(by omega) = [c0, c1, c2, c3][j]'(by simpa using hj) := by
      have : ((l.drop i).take 4)[j]? = [c0, c1, c2, c3][j]? := by rw [hq]
      rw [List.getElem?_take_of_lt hj, List.getElem?_drop, List.getElem?_eq_getElem (by omega), List.getElem?_eq_getElem (by simpa using hj)] at this
      exact Option.some.inj this
    rw [e]
  have d0 : w.cell? ⟨bb, off + i, none⟩ = some (.int .u8 (c0.toNat : Int)) := (at_ 0 (by decide)).2
  have d1 : w.cell? ⟨bb, off + (i + 1), none⟩ = some (.int .u8 (c1.toNat : Int)) := (at_ 1 (by decide)).2
  have d2 : w.cell? ⟨bb, off + (i + 2), none⟩ = some (.int .u8 (c2.toNat : Int)) := (at_ 2 (by decide)).2
  have d3 : w.cell? ⟨bb, off + (i + 3), none⟩ = some (.int .u8 (c3.toNat : Int)) := (at_ 3 (by decide)).2
  have hbw := World.block_lt_of_cell? w _ d0
  have hwp : IntKind.i64.wrap ((Y : Int) * (W : Int)) = (p : Int) := by
    have e : (Y : Int) * (W : Int) = (p : Int) := by rw [← hp]; exact (Int.natCast_mul Y W).symm
    rw [e]
    exact IntWalk.i64_in _ (by omega)
  have hii : 4 * ((p : Int) + (X : Int)) = (i : Int) := by omega
  have HR := Lib.hid (right_true (a := some ⟨bb, off, none⟩) (c := c) hr)
  have I0 : Blk ((w.alloc (.cells #[.int .i64 (W : Int), .int .i64 (H : Int), .slice (some ⟨bb, off, none⟩) n c] 32)).alloc (.cells #[.int .u8 0, .int .u8 0, .int .u8 0, .int .u8 0] 59)) w.heap.size 32 #[.int .i64 (W : Int), .int .i64 (H : Int), .slice (some ⟨bb, off, none⟩) n c] := (Blk.new _ _ _).alloc _
  have R0 : CB ((w.alloc (.cells #[.int .i64 (W : Int), .int .i64 (H : Int), .slice (some ⟨bb, off, none⟩) n c] 32)).alloc (.cells #[.int .u8 0, .int .u8 0, .int .u8 0, .int .u8 0] 59)) (w.heap.size + 1) 0 0 0 0 := Blk.new_at _ _ _ (by simp)
  have B0 : Below w.heap.size w ((w.alloc (.cells #[.int .i64 (W : Int), .int .i64 (H : Int), .slice (some ⟨bb, off, none⟩) n c] 32)).alloc (.cells #[.int .u8 0, .int .u8 0, .int .u8 0, .int .u8 0] 59)) := ((Below.refl _ _).alloc (Nat.le_refl _) _).alloc (by simp) _
  have x0 : ¬ (X : Int) < 0 := by omega
  have x1 : ¬ (W : Int) ≤ (X : Int) := by omega
  have y0 : ¬ (Y : Int) < 0 := by omega
  have y1 : ¬ (H : Int) ≤ (Y : Int) := by omega
  have s1 : (0 : Int) ≤ (i : Int) := by omega
  have s2 : (i : Int) + 4 ≤ (n : Int) := by omega
  have s3 : (i : Int) + 4 ≤ (c : Int) := by omega
  have hib : i ≤ 1099511627776 := by omega
  have hXb : X ≤ 16384 := by omega
  have D : Aside ((w.cell? ⟨bb, off + i, none⟩ = some (.int .u8 (c0.toNat : Int)) ∧ w.cell? ⟨bb, off + (i + 1), none⟩ = some (.int .u8 (c1.toNat : Int))) ∧ (w.cell? ⟨bb, off + (i + 2), none⟩ = some (.int .u8 (c2.toNat : Int)) ∧ w.cell? ⟨bb, off + (i + 3), none⟩ = some (.int .u8 (c3.toNat : Int)))) := ⟨⟨d0, d1⟩, ⟨d2, d3⟩⟩
  have HBW := Lib.hid hbw
  clear hr hc hq hp hi at_ hw hh hl d0 d1 d2 d3 hbw
  go_enter Tryz.func42, Tryz.ntmps42
  go_wp2_with (go_at_call 71; refine (HR.out _).mono ?_; rintro e w1 ⟨rfl, b1⟩; have I1 := Blk.below I0 b1 (Blk.lt I0); have R1 : CB w1 (w.heap.size + 1) 0 0 0 0 := Blk.below R0 b1 (Blk.lt R0); have B1 := below_next B0 b1; have i0 : w1.cell? ⟨w.heap.size, 0, none⟩ = some (.int .i64 (W : Int)) := Blk.cell I1 0; have i1 : w1.cell? ⟨w.heap.size, 1, none⟩ = some (.int .i64 (H : Int)) := Blk.cell I1 1; have i2 : w1.cell? ⟨w.heap.size, 2, none⟩ = some (.slice (some ⟨bb, off, none⟩) n c) := Blk.cell I1 2)
  have hbw := HBW.out
  have f0 := (B1.cell (p := ⟨bb, off + i, none⟩) hbw).trans D.out.1.1
  have f1 := (B1.cell (p := ⟨bb, off + (i + 1), none⟩) hbw).trans D.out.1.2
  have f2 := (B1.cell (p := ⟨bb, off + (i + 2), none⟩) hbw).trans D.out.2.1
  have f3 := (B1.cell (p := ⟨bb, off + (i + 3), none⟩) hbw).trans D.out.2.2
  have r0 := R1.c0
  have r1 := R1.c1
  have r2 := R1.c2
  have r3 := R1.c3
  have z0 := Blk.frozen R1 0
  have z1 := Blk.frozen R1 1
  have z2 := Blk.frozen R1 2
  have z3 := Blk.frozen R1 3
  have lr := Blk.lt R1
  have hnb : w.heap.size + 1 ≠ bb := by omega
  have g1 : off + i + 1 = off + (i + 1) := by omega
  have g2 : off + i + 2 = off + (i + 2) := by omega
  have g3 : off + i + 3 = off + (i + 3) := by omega
  rw [← g1] at f1
  rw [← g2] at f2
  rw [← g3] at f3
  clear g1 g2 g3 I0 R0 B0 b1 HBW HR hwp hii
  go_region
  all_goals go_wp2_with fail
  have fz : CB (st4 w1 (w.heap.size + 1) (c0.toNat : Int) (c1.toNat : Int) (c2.toNat : Int) (c3.toNat : Int)).drew (w.heap.size + 1) (c0.toNat : Int) (c1.toNat : Int) (c2.toNat : Int) (c3.toNat : Int) := Blk.drew R1.store
  have tz : Below w.heap.size w (st4 w1 (w.heap.size + 1) (c0.toNat : Int) (c1.toNat : Int) (c2.toNat : Int) (c3.toNat : Int)).drew := (Below.st4 B1 (by omega)).drew
  change bodyPost _ _ _ _ _ (st4 w1 (w.heap.size + 1) (c0.toNat : Int) (c1.toNat : Int) (c2.toNat : Int) (c3.toNat : Int)).drew
  generalize (st4 w1 (w.heap.size + 1) (c0.toNat : Int) (c1.toNat : Int) (c2.toNat : Int) (c3.toNat : Int)).drew = we at fz tz ⊢
  have q0 := fz.c0
  have q1 := fz.c1
  have q2 := fz.c2
  have q3 := fz.c3
  exact bodyPost_ret (v := .tuple #[.agg #[.int .u8 (c0.toNat : Int), .int .u8 (c1.toNat : Int), .int .u8 (c2.toNat : Int), .int .u8 (c3.toNat : Int)], .bool true]) (by simp [results, Tryz.results42, go_sem, q0, q1, q2, q3]) rfl ⟨rfl, tz⟩
end Go.Proofs.YtgmgcfjllijhgaaGreat
namespace Go.Proofs.YtgmgcfjllijhgaaGreat
open Go.RowKit
set_option linter.unusedVariables false
set_option linter.unusedSimpArgs false

end Go.Proofs.YtgmgcfjllijhgaaGreat
namespace Go.Proofs.YtgmgcfjllijhgaaGreat
open Go.RowKit
set_option linter.unusedVariables false
set_option linter.unusedSimpArgs false

section
variable {w : World} {r g b d : Nat} {l : List UInt8} {x y : Led}
end
theorem notTwo {a b c : Nat} (h1 : a ≠ b) (h2 : a ≠ c) : a ∉ [b, c] := by simp [h1, h2]
def W7 : Led := ⟨2, 1, 8, 9, 0, 0, 0, 0, 0⟩
def W7b : Led := ⟨2, 1, 8, 9, 8, 8, 0, 0, 0⟩
def W7c : Led := ⟨2, 1, 8, 9, 8, 8, 1, 0, 0⟩
def W7d : Led := ⟨2, 1, 8, 9, 8, 8, 2, 0, 0⟩
theorem W7.ok : W7.Ok := by constructor <;> decide
theorem W7b.ok : W7b.Ok := by constructor <;> decide
theorem W7c.ok : W7c.Ok := by constructor <;> decide
theorem ew0 : Led.new 2 1 8 9 = W7 := rfl
theorem ew1 : W7.sides ((2 : Nat) : Int) ((1 : Nat) : Int) = (W7, true) := rfl
theorem ew2 : W7.take ((8 : Nat) : Int) = (W7b, true) := rfl
theorem ew3 : W7b.work 1 = (W7c, true) := rfl
theorem ew4 : W7c.work 1 = (W7d, true) := rfl
def red : List UInt8 := [255, 0, 0, 255]
def L7 : List UInt8 := over (List.replicate 8 0) 0 red
theorem L7_len : L7.length = 8 := by decide
theorem L7_cut : ((swapL L7 0 4 4).drop 4).take 4 = [255, 0, 0, 255] := by decide
theorem L7_len2 : (swapL L7 0 4 4).length = 8 := by decide
theorem awSet7 {w : World} {r g b d : Nat} (h : RasAt w r g b 2 1 true) (hm : BufAt w b g d (List.replicate 8 0)) (hL : LedAt w g W7b) :
    Calls Tryz.prog 69 #[.pointer (some ⟨r, 0, none⟩), .int .i64 0, .int .i64 0, .agg #[.int .u8 255, .int .u8 0, .int .u8 0, .int .u8 255]] w fun e w' => e = .returned (.bool true) ∧ BufAt w' b g d L7 ∧ LedAt w' g W7c ∧ Turn [g, d] w w' :=
  rasSet_yes (X := 0) (Y := 0) (W := 2) (H := 1) (p := 0) (i := 0) (c0 := 255) (c1 := 0) (c2 := 0) (c3 := 255) h hm hL W7b.ok ew3 (by decide) (by decide) (by decide) (by decide) (by decide) (by decide) (by decide) (by decide) (by decide)
end Go.Proofs.YtgmgcfjllijhgaaGreat
namespace Go.Proofs.YtgmgcfjllijhgaaGreat
open Go.RowKit
set_option linter.unusedVariables false
set_option linter.unusedSimpArgs false

theorem list4 {l : List UInt8} (h : l.length = 4) : ∃ a b c d, l = [a, b, c, d] := by
  match l, h with
  | [a, b, c, d], _ => exact ⟨a, b, c, d, rfl⟩
def colV (c0 c1 c2 c3 : UInt8) : Value := .agg #[.int .u8 (c0.toNat : Int), .int .u8 (c1.toNat : Int), .int .u8 (c2.toNat : Int), .int .u8 (c3.toNat : Int)]
/-- two images in their boxes, and their bytes; a colour in its own -/
structure IC (w0 : World) (g k : Nat) (aW aH : Int) (aa : Option Addr) (an ac : Nat) (al : List UInt8) (bW bH : Int) (ba : Option Addr) (bn bc : Nat) (bl : List UInt8) (p0 p1 p2 p3 : Int) (w : World) : Prop where
  A : Blk w g 32 #[.int .i64 aW, .int .i64 aH, .slice aa an ac]
  B : Blk w (g + 1) 32 #[.int .i64 bW, .int .i64 bH, .slice ba bn bc]
  C : CB w k p0 p1 p2 p3
  a0_ : BytesAt w0 aa an al
  b0_ : BytesAt w0 ba bn bl
  below : Below w0.heap.size w0 w
section
variable {w0 w w' : World} {g k : Nat} {aW aH bW bH : Int} {aa ba : Option Addr} {an ac bn bc : Nat} {al bl : List UInt8} {p0 p1 p2 p3 : Int}
theorem IC.next (h : IC w0 g k aW aH aa an ac al bW bH ba bn bc bl p0 p1 p2 p3 w) (hb : Below w.heap.size w w') : IC w0 g k aW aH aa an ac al bW bH ba bn bc bl p0 p1 p2 p3 w' :=
  ⟨Blk.below h.A hb (Blk.lt h.A), Blk.below h.B hb (Blk.lt h.B), Blk.below h.C hb (Blk.lt h.C), h.a0_, h.b0_, below_next h.below hb⟩
theorem IC.drew (h : IC w0 g k aW aH aa an ac al bW bH ba bn bc bl p0 p1 p2 p3 w) : IC w0 g k aW aH aa an ac al bW bH ba bn bc bl p0 p1 p2 p3 w.drew := h.next (Below.refl _ _).drew
theorem IC.a (h : IC w0 g k aW aH aa an ac al bW bH ba bn bc bl p0 p1 p2 p3 w) : BytesAt w aa an al := h.a0_.below h.below
theorem IC.b (h : IC w0 g k aW aH aa an ac al bW bH ba bn bc bl p0 p1 p2 p3 w) : BytesAt w ba bn bl := h.b0_.below h.below
theorem IC.all (h : IC w0 g k aW aH aa an ac al bW bH ba bn bc bl p0 p1 p2 p3 w) :
    w.cell? ⟨g, 0, none⟩ = some (.int .i64 aW) ∧ w.cell? ⟨g, 1, none⟩ = some (.int .i64 aH) ∧ w.cell? ⟨g, 2, none⟩ = some (.slice aa an ac)
    ∧ w.cell? ⟨g + 1, 0, none⟩ = some (.int .i64 bW) ∧ w.cell? ⟨g + 1, 1, none⟩ = some (.int .i64 bH) ∧ w.cell? ⟨g + 1, 2, none⟩ = some (.slice ba bn bc)
    ∧ w.cell? ⟨k, 0, none⟩ = some (.int .u8 p0) ∧ w.cell? ⟨k, 1, none⟩ = some (.int .u8 p1) ∧ w.cell? ⟨k, 2, none⟩ = some (.int .u8 p2) ∧ w.cell? ⟨k, 3, none⟩ = some (.int .u8 p3)
    ∧ IC w0 g k aW aH aa an ac al bW bH ba bn bc bl p0 p1 p2 p3 w :=
  ⟨Blk.cell h.A 0, Blk.cell h.A 1, Blk.cell h.A 2, Blk.cell h.B 0, Blk.cell h.B 1, Blk.cell h.B 2, Blk.cell h.C 0, Blk.cell h.C 1, Blk.cell h.C 2, Blk.cell h.C 3, h⟩
end
theorem same_bool {W H W2 H2 : Int} {l m : List UInt8} {b : Bool} (hb : decide (SameP W H W2 H2 l m) = b) {w : World} {a a' : Option Addr} {n n' c c' : Nat} (h1 : BytesAt w a n l) (h2 : BytesAt w a' n' m) :
    Calls Tryz.prog 27 #[.agg #[.int .i64 W, .int .i64 H, .slice a n c], .agg #[.int .i64 W2, .int .i64 H2, .slice a' n' c']] w fun e w' => e = .returned (.bool b) ∧ Below w.heap.size w w' := by
  subst hb; exact same_any h1 h2
theorem refSame_bool {W H W2 H2 : Int} {l m : List UInt8} {b : Bool} (hb : decide (SameP W H W2 H2 l m) = b) {w : World} {a a' : Option Addr} {n n' c c' : Nat} (h1 : BytesAt w a n l) (h2 : BytesAt w a' n' m) :
    Calls Tryz.prog 12 #[.agg #[.int .i64 W, .int .i64 H, .slice a n c], .agg #[.int .i64 W2, .int .i64 H2, .slice a' n' c']] w fun e w' => e = .returned (.bool b) ∧ Below w.heap.size w w' := by
  subst hb; exact refSame7_any h1 h2
theorem right_bool {W H : Int} {b : Bool} {n : Nat} (hb : decide (RightP W H n) = b) {a : Option Addr} {c : Nat} (w : World) : Calls Tryz.prog 71 #[.agg #[.int .i64 W, .int .i64 H, .slice a n c]] w fun e w' => e = .returned (.bool b) ∧ Below w.heap.size w w' := by
  subst hb; exact right_any W H a n c w
theorem same_self (W H : Int) (l : List UInt8) : decide (SameP W H W H l l) = true := by simp [SameP]
end Go.Proofs.YtgmgcfjllijhgaaGreat
namespace Go.Proofs.YtgmgcfjllijhgaaGreat
open Go.RowKit
set_option linter.unusedVariables false
set_option linter.unusedSimpArgs false

end Go.Proofs.YtgmgcfjllijhgaaGreat
namespace Go.Proofs.YtgmgcfjllijhgaaGreat
open Go.RowKit
set_option linter.unusedVariables false
set_option linter.unusedSimpArgs false

theorem wide15 (w : World) : Calls Tryz.prog 22 #[] w fun e w' => e = .returned (.agg #[.int .i64 16384, .int .i64 16384, .int .i64 262144, .int .i64 1048576]) ∧ Below w.heap.size w w' := by
  go_enter Tryz.func22, Tryz.ntmps22
  go_wp2_with fail
  exact bodyPost_ret (v := .agg #[.int .i64 16384, .int .i64 16384, .int .i64 262144, .int .i64 1048576]) (by simp [results, Tryz.results22, go_sem]) rfl ⟨rfl, (Below.refl _ _).alloc (Nat.le_refl _) _⟩
end Go.Proofs.YtgmgcfjllijhgaaGreat
namespace Go.Proofs.YtgmgcfjllijhgaaGreat
open Go.RowKit
set_option linter.unusedVariables false
set_option linter.unusedSimpArgs false

/-- the wide budget -/
def XW : Led := ⟨16384, 16384, 262144, 1048576, 0, 0, 0, 0, 0⟩
theorem XW_new : Led.new 16384 16384 262144 1048576 = XW := rfl
theorem XW_ok : XW.Ok := by constructor <;> decide
theorem DRes.bad_inj {k a k' a' : Nat} (h : DRes.bad k a = .bad k' a') : k = k' ∧ a = a' := by injection h; exact ⟨by assumption, by assumption⟩
theorem told_ne {e : Nat} (d : Dec) : ∀ (b : Nat) {k a : Nat}, d.bal e b → d.told = .bad k a → k ≠ 4 ∧ a ≤ e := by
  induction d with
  | fin r =>
    intro b k a hb h
    unfold Dec.told at h
    subst h
    exact hb.2
  | work n fr a k ih => intro b k a hb h; exact ih _ hb.2.2 h
  | sides W H a k ih => intro b k a hb h; exact ih _ hb.2.2 h
  | take n a k ih => intro b k a hb h; exact ih _ hb.2.2 h
  | give n k ih => intro b k a hb h; exact ih _ hb.2 h
  | hold n fr a k ih => intro b k a hb h; exact ih _ hb.2.2 h
theorem told_img {e : Nat} (d : Dec) : ∀ (b : Nat) {W H : Nat} {l : List UInt8}, d.bal e b → d.told = .img W H l → l.length = 4 * (W * H) := by
  induction d with
  | fin r =>
    intro b W H l hb h
    unfold Dec.told at h
    subst h
    exact hb.2
  | work n fr a k ih => intro b W H l hb h; exact ih _ hb.2.2 h
  | sides W H a k ih => intro b W H l hb h; exact ih _ hb.2.2 h
  | take n a k ih => intro b W H l hb h; exact ih _ hb.2.2 h
  | give n k ih => intro b W H l hb h; exact ih _ hb.2 h
  | hold n fr a k ih => intro b W H l hb h; exact ih _ hb.2.2 h
/-- by the wide budget all is told -/
theorem wide_run {d : Dec} {e : Nat} (hb : d.bal e 0) (hm : d.may 262144 16384 16384) (hc : d.cost ≤ 1000000) : ∃ y, d.run XW = (y, d.told) ∧ y.reason = 0 ∧ y.bytes = (d.told.kept : Int) := by
  have h1 := Dec.run_enough d XW e 0 rfl hb rfl hm (by show (0 : Int) + _ ≤ 1048576; omega)
  rcases Dec.run_cases e d 0 XW hb rfl rfl with ⟨a, _, h3, h4, _⟩ | ⟨h3, h4, h5⟩
  · exact absurd h1.2 h4
  · exact ⟨(d.run XW).1, Prod.ext rfl h3, h4, h5⟩
theorem ffPix_told_img {s : ByteArray} {W H z : Nat} {W' H' : Nat} {l : List UInt8} : ∀ n k, (ffPix s W H z n k).told = .img W' H' l → W' = W ∧ H' = H := by
  intro n
  induction n with
  | zero =>
    intro k h
    have h' : DRes.img W H (ffBytes s k) = .img W' H' l := h
    injection h' with a b c
    exact ⟨a.symm, b.symm⟩
  | succ n ih =>
    intro k h
    by_cases hk : 16 + 8 * k + 8 ≤ s.size
    · rw [ffPix_told_yes hk] at h; exact ih _ h
    · rw [ffPix_told_no hk] at h; cases h
theorem ffDec_told (s : ByteArray) : (ffDec s).told = (if s.size < 16 then Dec.fin (.bad 1 s.size) else match ffHead s with | some f => .fin (.bad f.1 f.2) | none => ffBody s (beN s 8 4) (beN s 12 4)).told := rfl
/-- the ways that a file is told -/
inductive FfTold (s : ByteArray) : Prop where
  | short (h : s.size < 16) (t : (ffDec s).told = .bad 1 s.size) (u : ffSides s = (0, 0)) : FfTold s
  | head (h : 16 ≤ s.size) (k a : Nat) (hk : k ≠ 0) (hh : ffHead s = some (k, a)) (t : (ffDec s).told = .bad k a) (u : ffSides s = (0, 0)) : FfTold s
  | body (h : 16 ≤ s.size) (W H : Nat) (hh : ffHead s = none) (hW : beN s 8 4 = W) (hH : beN s 12 4 = H) (w1 : 1 ≤ W) (w2 : W ≤ 16384) (h1 : 1 ≤ H) (h2 : H ≤ 16384) (t : (ffDec s).told = (ffPix s W H (4 * (W * H)) (W * H) 0).told) (u : ffSides s = (W, H)) : FfTold s
theorem ffTold_is (s : ByteArray) : FfTold s := by
  by_cases h : s.size < 16
  · refine .short h ?_ (if_pos h)
    exact (ffDec_told s).trans (by rw [if_pos h]; rfl)
  · cases hh : ffHead s with
    | some f =>
      refine .head (by omega) f.1 f.2 (ffHead_ne hh).1 hh ?_ ?_
      · exact (ffDec_told s).trans (by rw [if_neg h, hh]; rfl)
      · unfold ffSides; rw [if_neg h, hh]
    | none =>
      obtain ⟨a, b, c, d⟩ := ffHead_sides hh
      refine .body (by omega) _ _ hh rfl rfl a b c d ?_ ?_
      · exact (ffDec_told s).trans (by rw [if_neg h, hh]; rfl)
      · unfold ffSides; rw [if_neg h, hh]
def ffLit : ByteArray := ⟨#[102, 97, 114, 98, 102, 101, 108, 100, 0, 0, 0, 1, 0, 0, 0, 1, 255, 255, 128, 128, 0, 0, 255, 255]⟩
theorem ffLit_told : (ffDec ffLit).told = .img 1 1 [255, 128, 0, 255] := by kernel_rfl
theorem ffLit_sides : ffSides ffLit = (1, 1) := by kernel_rfl
end Go.Proofs.YtgmgcfjllijhgaaGreat
namespace Go.Proofs.YtgmgcfjllijhgaaGreat
open Go.RowKit
set_option linter.unusedVariables false
set_option linter.unusedSimpArgs false

/-- Sides by the wide budget -/
def XW1 : Led := ⟨16384, 16384, 262144, 1048576, 0, 0, 1, 0, 0⟩
theorem XW_work : XW.work 1 = (XW1, true) := rfl
end Go.Proofs.YtgmgcfjllijhgaaGreat
namespace Go.Proofs.YtgmgcfjllijhgaaGreat
open Go.RowKit
set_option linter.unusedVariables false
set_option linter.unusedSimpArgs false

/-- the law's own test of Is -/
theorem ffIs_same (s : ByteArray) : ∃ b : Bool, decide (8 ≤ s.size ∧ s.extract 0 8 = ⟨#[102, 97, 114, 98, 102, 101, 108, 100]⟩) = b ∧ ((s.size < 8 ∧ b = false) ∨ (8 ≤ s.size ∧ ((s.extract 0 8).toList == [102, 97, 114, 98, 102, 101, 108, 100]) = b)) := by
  refine ⟨_, rfl, ?_⟩
  by_cases h : s.size < 8
  · exact .inl ⟨h, decide_eq_false (by omega)⟩
  · refine .inr ⟨by omega, ?_⟩
    have e2 : (⟨#[102, 97, 114, 98, 102, 101, 108, 100]⟩ : ByteArray).toList = [102, 97, 114, 98, 102, 101, 108, 100] := by rw [ByteArray.toList_eq]
    exact ((congrArg (fun L => (s.extract 0 8).toList == L) e2).symm.trans (textEq _ _)).trans (decide_eq_decide.2 ⟨fun e => ⟨by omega, e⟩, fun e => e.2⟩)
end Go.Proofs.YtgmgcfjllijhgaaGreat
namespace Go.Proofs.YtgmgcfjllijhgaaGreat
open Go.ChangeShapes Go.WideShapes Go.Deep Go.RowKit Go.Joins
set_option linter.unusedVariables false

section
variable {H : Type} {enc : TypeId × Value → H} {P : Program} {w : World} {base : Nat} {spare : Nat → Bool} {held : Bool}

theorem addr_add_lit {b off : Nat} {spot : Option Nat} (n : Nat) (h : spot = none) : ({ block := b, off := off, spot := spot } : Addr).add n = ⟨b, off + n, none⟩ := by
  subst h
  unfold Addr.add
  split
  · rename_i h; subst h; rfl
  · rfl

/-- a slice whose elements are structs of one-cell fields: each field's cell, and its reading -/
theorem open_structs {t e : TypeId} {fs : Array Field} {a : Option Addr} {len cap : Nat} {d : DataW H} {p : List MemPlace} (ht : P.underlying t = some (.slice e)) (he : P.underlying e = some (.struct fs))
    (hone : oneCellFields P fs = true) (hC : P.cellsOf e = fs.size) (hpos : 0 < fs.size) (hsp : ∀ b, spare b = true) (h : DataW.Trod enc P w base spare held t (.slice a len cap) d p) :
    len = 0 ∨ ∃ b off, a = some ⟨b, off, none⟩ ∧ len ≤ cap ∧ cap ≤ maxLen ∧
      ∀ i, i < len → ∃ n, ∀ (j : Nat) (f : Field), fs[j]? = some f → ∃ (v : Value) (y : DataW H × List MemPlace), w.cell? ⟨b, off + i * fs.size + j, none⟩ = some v ∧ DataW.trod enc P w base spare held n f.type [v] = some y := by
  obtain ⟨fuel, hf⟩ := h
  simp only [Value.cells] at hf
  rcases open_slice ht hf with ⟨hcs, _⟩ | ⟨a', len', cap', m, n, D, Pl, hcs, hb, hl, hm, hmm, hx, hi⟩
  · simp only [List.cons.injEq, Value.slice.injEq] at hcs
    exact .inl hcs.1.2.1
  · simp only [List.cons.injEq, Value.slice.injEq] at hcs
    obtain ⟨⟨rfl, rfl, rfl⟩, _⟩ := hcs
    rcases Nat.eq_zero_or_pos len with h0 | hp
    · exact .inl h0
    right
    have hmlen : m = cap := by rw [hmm, hsp, if_pos rfl]
    obtain ⟨b, off, spot⟩ := a'
    have step : ∀ i, i < len → ∃ n, ∀ (j : Nat) (f : Field), fs[j]? = some f → ∃ (v : Value) (y : DataW H × List MemPlace), w.cell? ((⟨b, off, spot⟩ : Addr).add (i * fs.size + j)) = some v ∧ DataW.trod enc P w base spare held n f.type [v] = some y := by
      intro i him
      obtain ⟨cs', hc, ht'⟩ := hi i (by omega)
      rw [hC] at hc
      obtain ⟨ys, n', hn', hy, hlen, hyl, hf'⟩ := DataW.trod_struct he ht'
      obtain ⟨_, hcl, hat⟩ := World.cells?_some hc
      refine ⟨n', fun j f hj => ?_⟩
      obtain ⟨ho, hk⟩ := hone_of hone j f hj
      have hjl : j < fs.size := (Array.getElem?_eq_some_iff.1 hj).1
      have hcell := hat j hjl
      have hv : cs'[j]? = some (cs'[j]'(by omega)) := List.getElem?_eq_getElem (by omega)
      have h1 := hf' j f hj
      rw [ho, hk] at h1
      have hone' : (cs'.drop j).take 1 = [cs'[j]'(by omega)] := by
        rw [List.drop_eq_getElem_cons (by omega)]
        rfl
      rw [hone'] at h1
      have hys : ys[j]? = some (ys[j]'(by omega)) := List.getElem?_eq_getElem (by omega)
      refine ⟨_, _, ?_, h1.trans hys⟩
      rw [← Go.Deep.add_add, hcell, hv]
    have hspot : spot = none := by
      obtain ⟨n, hn⟩ := step 0 hp
      obtain ⟨v, y, hc, _⟩ := hn 0 fs[0] (Array.getElem?_eq_getElem hpos)
      have e : ((⟨b, off, spot⟩ : Addr).add (0 * fs.size + 0)) = ⟨b, off, spot⟩ := by simp [Addr.add]
      rw [e] at hc
      simpa using World.cell?_spot hc
    subst hspot
    refine ⟨b, off, rfl, hl, hm, fun i him => ?_⟩
    obtain ⟨n, hn⟩ := step i him
    refine ⟨n, fun j f hj => ?_⟩
    obtain ⟨v, y, hc, ht⟩ := hn j f hj
    rw [addr_add_lit _ rfl, ← Nat.add_assoc] at hc
    exact ⟨v, y, hc, ht⟩
end
end Go.Proofs.YtgmgcfjllijhgaaGreat
namespace Go.Proofs.YtgmgcfjllijhgaaGreat
open Go.RowKit
set_option linter.unusedVariables false
set_option linter.unusedSimpArgs false

theorem led_fix_work (x : Led) (n : Int) : (x.work n).1.B = x.B ∧ (x.work n).1.S = x.S := by unfold Led.work; split <;> first | exact ⟨rfl, rfl⟩ | (split <;> exact ⟨rfl, rfl⟩)
theorem led_fix_take (x : Led) (n : Int) : (x.take n).1.B = x.B ∧ (x.take n).1.S = x.S := by unfold Led.take; split <;> first | exact ⟨rfl, rfl⟩ | (split <;> exact ⟨rfl, rfl⟩)
theorem led_fix_give (x : Led) (n : Int) : (x.give n).1.B = x.B ∧ (x.give n).1.S = x.S := by unfold Led.give; split <;> exact ⟨rfl, rfl⟩
theorem led_fix_sides (x : Led) (a b : Int) : (x.sides a b).1.B = x.B ∧ (x.sides a b).1.S = x.S := by
  unfold Led.sides
  split
  · exact ⟨rfl, rfl⟩
  · split
    · exact ⟨rfl, rfl⟩
    · split <;> exact ⟨rfl, rfl⟩
theorem Dec.run_fix (d : Dec) : ∀ x : Led, (d.run x).1.B = x.B ∧ (d.run x).1.S = x.S := by
  induction d with
  | fin r => intro x; exact ⟨rfl, rfl⟩
  | work n fr a k ih =>
    intro x
    have h := led_fix_work x n
    unfold Dec.run
    split
    · have := ih (x.work n).1; exact ⟨this.1.trans h.1, this.2.trans h.2⟩
    · have := led_fix_give (x.work n).1 (fr : Int); exact ⟨this.1.trans h.1, this.2.trans h.2⟩
  | sides W H a k ih =>
    intro x
    have h := led_fix_sides x W H
    unfold Dec.run
    split
    · have := ih (x.sides W H).1; exact ⟨this.1.trans h.1, this.2.trans h.2⟩
    · exact h
  | take n a k ih =>
    intro x
    have h := led_fix_take x n
    unfold Dec.run
    split
    · have := ih (x.take n).1; exact ⟨this.1.trans h.1, this.2.trans h.2⟩
    · exact h
  | give n k ih =>
    intro x
    have h := led_fix_give x n
    unfold Dec.run
    have := ih (x.give n).1
    exact ⟨this.1.trans h.1, this.2.trans h.2⟩
  | hold n fr a k ih =>
    intro x
    have h := led_fix_take x n
    unfold Dec.run
    split
    · have := ih (x.take n).1; exact ⟨this.1.trans h.1, this.2.trans h.2⟩
    · have := led_fix_give (x.take n).1 (fr : Int); exact ⟨this.1.trans h.1, this.2.trans h.2⟩
/-- what a run by any budget leaves -/
inductive AnyRun (fm : Int) (d : Dec) (e : Nat) (w w' : World) (g : Nat) (y : Led) (en : Ending) : Prop where
  | spent (a : Nat) (h : a ≤ e) (r : y.reason ≠ 0) (b : y.bytes = 0) (k : en = .returned (.tuple #[.agg #[.int .i64 0, .int .i64 0, .slice none 0 0], .agg #[.int .i64 4, .int .i64 fm, .int .i64 (a : Int)], .pointer (some ⟨g, 0, none⟩)])) : AnyRun fm d e w w' g y en
  | bad (k a : Nat) (h0 : k ≠ 0) (h4 : k ≠ 4) (t : d.told = .bad k a) (u : en = .returned (.tuple #[.agg #[.int .i64 0, .int .i64 0, .slice none 0 0], .agg #[.int .i64 (k : Int), .int .i64 fm, .int .i64 (a : Int)], .pointer (some ⟨g, 0, none⟩)])) : AnyRun fm d e w w' g y en
  | img (W H : Nat) (l : List UInt8) (c : Nat) (t : d.told = .img W H l) (u : en = .returned (.tuple #[.agg #[.int .i64 (W : Int), .int .i64 (H : Int), .slice (some ⟨c, 0, none⟩) l.length l.length], .agg #[.int .i64 0, .int .i64 0, .int .i64 0], .pointer (some ⟨g, 0, none⟩)])) (b : BytesAt w' (some ⟨c, 0, none⟩) l.length l) : AnyRun fm d e w w' g y en
theorem anyRun {fm : Int} {d : Dec} {e : Nat} {x0 : Led} {w w' : World} {en : Ending} (hb : d.bal e 0) (hr : x0.reason = 0) (h0 : x0.bytes = 0) (h : RunPost fm d x0 w w' en) : ∃ g y, LedAt w' g y ∧ y.Ok ∧ y.B = x0.B ∧ y.S = x0.S ∧ Below w.heap.size w w' ∧ AnyRun fm d e w w' g y en := by
  obtain ⟨g, y, l, yok, gn, bl, hor⟩ := h
  have hf := d.run_fix x0
  have hc := Dec.run_cases e d 0 x0 hb hr h0
  rcases hor with ⟨k, a, hk, hrun, rfl⟩ | ⟨W, H, l', c, hrun, rfl, hbt⟩
  · rw [hrun] at hf hc
    refine ⟨g, y, l, yok, hf.1, hf.2, bl, ?_⟩
    rcases hc with ⟨a', h1, h2, h3, h4⟩ | ⟨h2, h3, h4⟩
    · obtain ⟨rfl, rfl⟩ := DRes.bad_inj h2
      exact .spent a h1 h3 h4 rfl
    · exact .bad k a hk (told_ne d 0 hb h2.symm).1 h2.symm rfl
  · rw [hrun] at hf hc
    refine ⟨g, y, l, yok, hf.1, hf.2, bl, ?_⟩
    rcases hc with ⟨a', h1, h2, h3, h4⟩ | ⟨h2, h3, h4⟩
    · cases h2
    · exact .img W H l' c h2.symm rfl hbt
end Go.Proofs.YtgmgcfjllijhgaaGreat
namespace Go.Proofs.YtgmgcfjllijhgaaGreat
open Go.ChangeShapes Go.WideShapes Go.Deep Go.RowKit Go.Joins
set_option linter.unusedVariables false

structure OpL where
  k : Int
  n : Int
  m : Int
def noOp : OpL := ⟨0, 0, 0⟩
def fits (z : Int) : Prop := -9223372036854775808 ≤ z ∧ z ≤ 9223372036854775807
structure OpL.Fits (o : OpL) : Prop where
  k : fits o.k
  n : fits o.n
  m : fits o.m
def SliceOps (w : World) (a : Option Addr) (n : Nat) (l : List OpL) : Prop :=
  n = 0 ∨ ∃ b off, a = some ⟨b, off, none⟩ ∧ n ≤ maxLen ∧ l.length = n ∧ ∀ i, i < n → (l.getD i noOp).Fits ∧ w.cell? ⟨b, off + i * 3, none⟩ = some (.int .i64 (l.getD i noOp).k) ∧ w.cell? ⟨b, off + i * 3 + 1, none⟩ = some (.int .i64 (l.getD i noOp).n) ∧ w.cell? ⟨b, off + i * 3 + 2, none⟩ = some (.int .i64 (l.getD i noOp).m)

section
variable {H : Type} {enc : TypeId × Value → H} {w : World} {base : Nat} {spare : Nat → Bool} {held : Bool}

set_option maxRecDepth 100000 in
theorem budget_of {r : Reach} {b0 : Nat} {v : Value} {d : DataW H} {p : List MemPlace} (hv : Value.okWide Tryz.prog w r b0 47 v) (h : DataW.Trod enc Tryz.prog w base spare held 47 v d p) :
    ∃ a b c d : Int, (fits a ∧ fits b ∧ fits c ∧ fits d) ∧ v = .agg #[.int .i64 a, .int .i64 b, .int .i64 c, .int .i64 d] := by
  obtain ⟨v0, v1, v2, v3, y0, y1, y2, y3, n, rfl, _, _, t0, t1, t2, t3⟩ := open_agg4 Tryz.underlying47 (by kernel_rfl) (by kernel_rfl) hv h
  obtain ⟨k0, e0, _, f0⟩ := DataW.trod_int Tryz.underlying3 t0
  obtain ⟨k1, e1, _, f1⟩ := DataW.trod_int Tryz.underlying3 t1
  obtain ⟨k2, e2, _, f2⟩ := DataW.trod_int Tryz.underlying3 t2
  obtain ⟨k3, e3, _, f3⟩ := DataW.trod_int Tryz.underlying3 t3
  obtain rfl : v0 = .int .i64 k0 := by simpa using e0
  obtain rfl : v1 = .int .i64 k1 := by simpa using e1
  obtain rfl : v2 = .int .i64 k2 := by simpa using e2
  obtain rfl : v3 = .int .i64 k3 := by simpa using e3
  exact ⟨k0, k1, k2, k3, ⟨bounds_i64 f0, bounds_i64 f1, bounds_i64 f2, bounds_i64 f3⟩, rfl⟩
end
end Go.Proofs.YtgmgcfjllijhgaaGreat
namespace Go.Proofs.YtgmgcfjllijhgaaGreat
open Go.RowKit
set_option linter.unusedVariables false
set_option linter.unusedSimpArgs false

theorem steps_at27 {w : World} {g : Nat} {x : Led} {q : Int} (h : LedAt w g x) (e : x.steps = q) : Calls Tryz.prog 18 #[.pointer (some ⟨g, 0, none⟩)] w fun e w' => e = .returned (.int .i64 q) ∧ w = w' := by
  have hc := h.steps
  rw [e] at hc
  clear h e
  go_enter Tryz.func18, Tryz.ntmps18
  go_wp2_with (go_at_call 48; refine (load64 _ _ _ hc).mono ?_; rintro e w' ⟨rfl, rfl⟩)
  go_ret
  exact ⟨rfl, rfl⟩
theorem bytesNone (w : World) : BytesAt w none 0 [] := ⟨rfl, .inl rfl⟩
theorem nought_max (c : Int) : nought c = max c 0 := by unfold nought; split <;> omega
/-- the box of a budget -/
def GB (w : World) (b : Nat) (p0 p1 p2 p3 : Int) : Prop := Blk w b 47 #[.int .i64 p0, .int .i64 p1, .int .i64 p2, .int .i64 p3]
theorem GB.all {w : World} {b : Nat} {p0 p1 p2 p3 : Int} (h : GB w b p0 p1 p2 p3) : w.cell? ⟨b, 0, none⟩ = some (.int .i64 p0) ∧ w.cell? ⟨b, 1, none⟩ = some (.int .i64 p1) ∧ w.cell? ⟨b, 2, none⟩ = some (.int .i64 p2) ∧ w.cell? ⟨b, 3, none⟩ = some (.int .i64 p3) := ⟨Blk.cell h 0, Blk.cell h 1, Blk.cell h 2, Blk.cell h 3⟩
end Go.Proofs.YtgmgcfjllijhgaaGreat
