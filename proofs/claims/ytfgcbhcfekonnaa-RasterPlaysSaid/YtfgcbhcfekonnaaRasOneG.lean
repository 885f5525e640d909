/- One call of both: Image. -/
import Derived.Test.YtfgcbhcfekonnaaRasOne1

namespace Go.Proofs.Ytfgcbhcfekonnaa
open Go.RowKit
set_option linter.unusedVariables false
set_option linter.unusedSimpArgs false

theorem samebR {W H W2 H2 : Int} {l m : List UInt8} {b : Bool} (hb : decide (SameP W H W2 H2 l m) = b) {w : World} {a a' : Option Addr} {n n' c c' : Nat} (h1 : BytesAt w a n l) (h2 : BytesAt w a' n' m) :
    Calls Try.prog 33 #[.agg #[.int .i64 W, .int .i64 H, .slice a n c], .agg #[.int .i64 W2, .int .i64 H2, .slice a' n' c']] w fun e w' => e = .returned (.bool b) ∧ Below w.heap.size w w' := by
  subst hb; exact same_any h1 h2
theorem same_selfR (W H : Int) (l : List UInt8) : decide (SameP W H W H l l) = true := by simp [SameP]
set_option maxRecDepth 100000 in
set_option maxHeartbeats 4000000 in
theorem one7_image_no {w : World} {r g b d W H q n c : Nat} {X : Int} {Y : Int} {k p s : Int} {o : Bool} {L : List Qc} {qc : Qc} (D : Dim W H n L) (hI : Ins r g b d q w.heap.size) (hq0 : q < w.heap.size) (A : RasAt w r g b (W : Int) (H : Int) false) (M : false = true → BufAt w b g d (flat L)) (G : LedAt w g (LR k p s)) (Q : QAt w q 0 L) (hnc : n ≤ c) :
    Calls Try.prog 14 #[.pointer (some ⟨r, 0, none⟩), .agg (refC (W : Int) (H : Int) q n c false), .agg (opR 6 X Y qc), .pointer (some ⟨g, 0, none⟩), .int .i64 s] w fun e w' => e = .returned (.tuple #[.agg (refC (W : Int) (H : Int) q n c false), .int .i64 s, .bool true]) ∧ OneEndR w w' r g b d W H q false L (LR k p s) := by
  obtain ⟨wA, hwA⟩ : ∃ wA, wA = (((w.alloc (.cells #[.int .i64 (W : Int), .int .i64 (H : Int), .slice (some ⟨q, 0, none⟩) n c, .bool false] 34)).alloc (.cells #[.int .i64 6, .int .i64 X, .int .i64 Y, .int .u8 (qc.r.toNat : Int), .int .u8 (qc.g.toNat : Int), .int .u8 (qc.b.toNat : Int), .int .u8 (qc.a.toNat : Int)] 41)).alloc (.cells #[.int .i64 0, .int .i64 0, .slice none 0 0, .bool false] 34)) := ⟨_, rfl⟩
  have HQ : Hid (OneR wA w.heap.size r g b d W H q n c false L 6 X Y qc false L (LR k p s)) := Lib.hid (by
    subst hwA
    exact ⟨((Blk.new _ _ _).alloc _).alloc _, (Blk.new_at _ _ _ (by simp)).alloc _, Blk.new_at _ _ _ (by simp), Q.below' ((((Below.refl _ _).alloc (Nat.le_refl _) _).alloc (by simp) _).alloc (by simp; omega) _), ((Blk.alloc A _).alloc _).alloc _, fun e => ⟨(((M e).blk.alloc _).alloc _).alloc _, (((M e).row.alloc _).alloc _).alloc _⟩, ((Blk.alloc G _).alloc _).alloc _⟩)
  have HT : Hid (Turn [r, b, g, d] w wA) := Lib.hid (by subst hwA; exact (((Turn.refl _ _).alloc _).alloc _).alloc _)
  have HI := Lib.hid hI
  have HD := Lib.hid D
  have ne0 : q ≠ w.heap.size + 2 := by omega
  clear A M G Q hI D
  unfold refC opR
  go_enter Try.func14, Try.ntmps14
  go_upto_region 1 with fail
  change Code.wp _ _ _ _ (((w.alloc (.cells #[.int .i64 (W : Int), .int .i64 (H : Int), .slice (some ⟨q, 0, none⟩) n c, .bool false] 34)).alloc (.cells #[.int .i64 6, .int .i64 X, .int .i64 Y, .int .u8 (qc.r.toNat : Int), .int .u8 (qc.g.toNat : Int), .int .u8 (qc.b.toNat : Int), .int .u8 (qc.a.toNat : Int)] 41)).alloc (.cells #[.int .i64 0, .int .i64 0, .slice none 0 0, .bool false] 34))
  rw [← hwA]
  clear hwA
  obtain ⟨x0, x1, x2, x3, o0, o1, o2, o3, o4, o5, o6, r0, r1, r2, r3, zx0, zx1, zx2, zx3, z0, z1, z2, z3, lx, lo, lr⟩ := HQ.out.facts
  go_upto_region 32 with (first
    | (go_at_call 51; refine (rasImage_no HQ.out.A).mono ?_; rintro e w1 ⟨rfl, b1⟩; have Q1 := HQ.out.below b1; have T1 := HT.out.trans (Turn.of_below b1); clear x0 x1 x2 x3 o0 o1 o2 o3 o4 o5 o6 r0 r1 r2 r3 zx0 zx1 zx2 zx3 z0 z1 z2 z3 lx lo lr; obtain ⟨x0, x1, x2, x3, o0, o1, o2, o3, o4, o5, o6, r0, r1, r2, r3, zx0, zx1, zx2, zx3, z0, z1, z2, z3, lx, lo, lr⟩ := Q1.facts))
  have B2 : Below w1.heap.size w1 (w1.alloc (.cells #[.int .i64 0, .int .i64 0, .slice none 0 0] 46)) := (Below.refl _ _).alloc (Nat.le_refl _) _
  have C2 : Blk (w1.alloc (.cells #[.int .i64 0, .int .i64 0, .slice none 0 0] 46)) w1.heap.size 46 #[.int .i64 0, .int .i64 0, .slice none 0 0] := Blk.new _ _ _
  have hcb : w.heap.size + 2 < w1.heap.size := lr
  change Code.wp _ _ _ _ (w1.alloc (.cells #[.int .i64 0, .int .i64 0, .slice none 0 0] 46))
  generalize (w1.alloc (.cells #[.int .i64 0, .int .i64 0, .slice none 0 0] 46)) = w2 at B2 C2 ⊢
  have Q2 := Q1.below B2
  have T2 := T1.trans (Turn.of_below B2)
  obtain ⟨cb, hcbe⟩ : ∃ cb, cb = w1.heap.size := ⟨_, rfl⟩
  rw [← hcbe] at C2 hcb ⊢
  clear hcbe B2 x0 x1 x2 x3 o0 o1 o2 o3 o4 o5 o6 r0 r1 r2 r3 zx0 zx1 zx2 zx3 z0 z1 z2 z3 lx lo lr
  obtain ⟨x0, x1, x2, x3, o0, o1, o2, o3, o4, o5, o6, r0, r1, r2, r3, zx0, zx1, zx2, zx3, z0, z1, z2, z3, lx, lo, lr⟩ := Q2.facts
  go_upto_region 33 with fail
  have HQ3 := Lib.hid Q2
  have HT3 := Lib.hid T2
  have HC3 := Lib.hid C2
  have d0 := Blk.cell C2 0
  have d1 := Blk.cell C2 1
  have d2 := Blk.cell C2 2
  clear Q1 Q2 T1 T2 C2 o0 o1 o2 o3 o4 o5 o6 r0 r1 r2 r3 zx0 zx1 zx2 zx3 z0 z1 z2 z3 lx lo lr
  refine wp_region_held_drew (S := (fun w' => w'.cell? ⟨w.heap.size, 0, none⟩ = some (.int .i64 (W : Int)) ∧ w'.cell? ⟨w.heap.size, 1, none⟩ = some (.int .i64 (H : Int)) ∧ w'.cell? ⟨w.heap.size, 2, none⟩ = some (.slice (some ⟨q, 0, none⟩) n c) ∧ w'.cell? ⟨w.heap.size, 3, none⟩ = some (.bool false) ∧ w'.cell? ⟨cb, 0, none⟩ = some (.int .i64 0) ∧ w'.cell? ⟨cb, 1, none⟩ = some (.int .i64 0) ∧ w'.cell? ⟨cb, 2, none⟩ = some (.slice none 0 0))) (by kernel_rfl) ⟨x0, x1, x2, x3, d0, d1, d2⟩ (fun hHeld => ?_)
  refine wpAnyH_take (i := 0) (v := ?_) rfl (by kernel_rfl) (by kernel_rfl) (by kernel_rfl) (fun _ _ _ h => h) (Or.inl ⟨by kernel_rfl, ?_⟩) (by assumption) ?_
  rotate_left
  · intro w hSw; (try dsimp only at hSw); go_simp; (try with_reducible rfl)
  (try simp only [Act.put, List.setIfInBounds_toArray, List.set_cons_zero, List.set_cons_succ])
  (try simp only [List.getElem_toArray, List.getElem_cons_succ, List.getElem_cons_zero, Act.put, List.setIfInBounds_toArray, List.set_cons_zero, List.set_cons_succ])
  refine wpAnyH_take (i := 1) (v := ?_) rfl (by kernel_rfl) (by kernel_rfl) (by kernel_rfl) (fun _ _ _ h => h) (Or.inl ⟨by kernel_rfl, ?_⟩) (by assumption) ?_
  rotate_left
  · intro w hSw; (try dsimp only at hSw); go_simp; (try with_reducible rfl)
  (try simp only [Act.put, List.setIfInBounds_toArray, List.set_cons_zero, List.set_cons_succ])
  (try simp only [List.getElem_toArray, List.getElem_cons_succ, List.getElem_cons_zero, Act.put, List.setIfInBounds_toArray, List.set_cons_zero, List.set_cons_succ])
  refine wpAnyH_take (i := 2) (v := ?_) rfl (by kernel_rfl) (by kernel_rfl) (by kernel_rfl) (fun _ _ _ h => h) (Or.inl ⟨by kernel_rfl, ?_⟩) (by assumption) ?_
  rotate_left
  · intro w hSw; (try dsimp only at hSw); go_simp; (try with_reducible rfl)
  (try simp only [Act.put, List.setIfInBounds_toArray, List.set_cons_zero, List.set_cons_succ])
  (try simp only [List.getElem_toArray, List.getElem_cons_succ, List.getElem_cons_zero, Act.put, List.setIfInBounds_toArray, List.set_cons_zero, List.set_cons_succ])
  refine wpAnyH_take (i := 3) (v := ?_) rfl (by kernel_rfl) (by kernel_rfl) (by kernel_rfl) (fun _ _ _ h => h) (Or.inl ⟨by kernel_rfl, ?_⟩) (by assumption) ?_
  rotate_left
  · intro w hSw; (try dsimp only at hSw); go_simp; (try with_reducible rfl)
  (try simp only [Act.put, List.setIfInBounds_toArray, List.set_cons_zero, List.set_cons_succ])
  (try simp only [List.getElem_toArray, List.getElem_cons_succ, List.getElem_cons_zero, Act.put, List.setIfInBounds_toArray, List.set_cons_zero, List.set_cons_succ])
  refine wpAnyH_take (i := 4) (v := ?_) rfl (by kernel_rfl) (by kernel_rfl) (by kernel_rfl) (fun _ _ _ h => h) (Or.inl ⟨by kernel_rfl, ?_⟩) (by assumption) ?_
  rotate_left
  · intro w hSw; (try dsimp only at hSw); go_simp; (try with_reducible rfl)
  (try simp only [Act.put, List.setIfInBounds_toArray, List.set_cons_zero, List.set_cons_succ])
  (try simp only [List.getElem_toArray, List.getElem_cons_succ, List.getElem_cons_zero, Act.put, List.setIfInBounds_toArray, List.set_cons_zero, List.set_cons_succ])
  refine wpAnyH_take (i := 5) (v := ?_) rfl (by kernel_rfl) (by kernel_rfl) (by kernel_rfl) (fun _ _ _ h => h) (Or.inl ⟨by kernel_rfl, ?_⟩) (by assumption) ?_
  rotate_left
  · intro w hSw; (try dsimp only at hSw); go_simp; (try with_reducible rfl)
  (try simp only [Act.put, List.setIfInBounds_toArray, List.set_cons_zero, List.set_cons_succ])
  (try simp only [List.getElem_toArray, List.getElem_cons_succ, List.getElem_cons_zero, Act.put, List.setIfInBounds_toArray, List.set_cons_zero, List.set_cons_succ])
  refine wpAnyH_take (i := 6) (v := ?_) rfl (by kernel_rfl) (by kernel_rfl) (by kernel_rfl) (fun _ _ _ h => h) (Or.inl ⟨by kernel_rfl, ?_⟩) (by assumption) ?_
  rotate_left
  · intro w hSw; (try dsimp only at hSw); go_simp; (try with_reducible rfl)
  (try simp only [Act.put, List.setIfInBounds_toArray, List.set_cons_zero, List.set_cons_succ])
  (try simp only [List.getElem_toArray, List.getElem_cons_succ, List.getElem_cons_zero, Act.put, List.setIfInBounds_toArray, List.set_cons_zero, List.set_cons_succ])
  refine wpAnyH_ready (rs := [7]) (by kernel_rfl) (by simp) ?_
  refine AllReadyH.cons rfl (fun K hK => ?_) AllReadyH.nil
  go_simp
  refine (samebR (l := []) (m := []) (same_selfR 0 0 []) ⟨rfl, .inl rfl⟩ ⟨rfl, .inl rfl⟩).mono ?_
  rintro e w5 ⟨rfl, b5⟩
  have Q5 := HQ3.out.drew.below b5
  have T5 := HT3.out.drew.trans (Turn.of_below b5)
  have C5 : Blk w5 cb 46 #[.int .i64 0, .int .i64 0, .slice none 0 0] := Blk.below (Blk.drew HC3.out) b5 (Blk.lt HC3.out)
  obtain ⟨x0, x1, x2, x3, o0, o1, o2, o3, o4, o5, o6, r0, r1, r2, r3, zx0, zx1, zx2, zx3, z0, z1, z2, z3, lx, lo, lr⟩ := Q5.facts
  refine hK.out _ _ ⟨x0, x1, x2, x3, Blk.cell C5 0, Blk.cell C5 1, Blk.cell C5 2⟩ (fun hHeld' => ?_)
  clear hK K hHeld
  (try simp only [Act.put, List.setIfInBounds_toArray, List.set_cons_zero, List.set_cons_succ])
  refine wpAnyH_take (i := 8) (v := ?_) rfl (by kernel_rfl) (by kernel_rfl) (by kernel_rfl) (fun _ _ _ h => h) (Or.inl ⟨by kernel_rfl, ?_⟩) (by assumption) ?_
  rotate_left
  · intro w hSw; (try dsimp only at hSw); go_simp; (try with_reducible rfl)
  (try simp only [Act.put, List.setIfInBounds_toArray, List.set_cons_zero, List.set_cons_succ])
  (try simp only [List.getElem_toArray, List.getElem_cons_succ, List.getElem_cons_zero, Act.put, List.setIfInBounds_toArray, List.set_cons_zero, List.set_cons_succ])
  have C6 : Blk (stR w5 (w.heap.size + 2) (W : Int) (H : Int) q n c false) cb 46 #[.int .i64 0, .int .i64 0, .slice none 0 0] := Blk.stR C5 (by omega)
  refine wpAnyH_ready (rs := [9]) (by kernel_rfl) (by simp) ?_
  refine AllReadyH.cons rfl (fun K hK => ?_) AllReadyH.nil
  go_simp
  obtain ⟨fz, tz⟩ := OneR.fin (o' := false) (Q5) (T5) HI.out.1 HI.out.2.1 HI.out.2.2.1 HI.out.2.2.2.1 HI.out.2.2.2.2 ne0 (Nat.le_refl _)
  have X5 : RB (stR w5 (w.heap.size + 2) (W : Int) (H : Int) q n c false) w.heap.size (W : Int) (H : Int) q n c false := Blk.stR (Q5).X_ (by omega)
  refine hK.out _ (stR w5 (w.heap.size + 2) (W : Int) (H : Int) q n c false) ⟨X5.c0, X5.c1, X5.c2, X5.c3, Blk.cell C6 0, Blk.cell C6 1, Blk.cell C6 2⟩ (fun hHeld9 => ?_)
  clear hK K hHeld'
  (try simp only [Act.put, List.setIfInBounds_toArray, List.set_cons_zero, List.set_cons_succ])
  refine wpAnyH_take (i := 10) (v := ?_) rfl (by kernel_rfl) (by kernel_rfl) (by kernel_rfl) (fun _ _ _ h => h) (Or.inl ⟨by kernel_rfl, ?_⟩) (by assumption) ?_
  rotate_left
  · intro w hSw; (try dsimp only at hSw); go_simp; (try with_reducible rfl)
  (try simp only [Act.put, List.setIfInBounds_toArray, List.set_cons_zero, List.set_cons_succ])
  (try simp only [List.getElem_toArray, List.getElem_cons_succ, List.getElem_cons_zero, Act.put, List.setIfInBounds_toArray, List.set_cons_zero, List.set_cons_succ])
  refine wpAnyH_take (i := 11) (v := ?_) rfl (by kernel_rfl) (by kernel_rfl) (by kernel_rfl) (fun _ _ _ h => h) (Or.inl ⟨by kernel_rfl, ?_⟩) (by assumption) ?_
  rotate_left
  · intro w hSw; (try dsimp only at hSw); go_simp; (try with_reducible rfl)
  (try simp only [Act.put, List.setIfInBounds_toArray, List.set_cons_zero, List.set_cons_succ])
  (try simp only [List.getElem_toArray, List.getElem_cons_succ, List.getElem_cons_zero, Act.put, List.setIfInBounds_toArray, List.set_cons_zero, List.set_cons_succ])
  refine wpAnyH_done (by kernel_rfl) ?_ _
  generalize (stR w5 (w.heap.size + 2) (W : Int) (H : Int) q n c false) = we at fz tz ⊢
  go_wp2_with fail
  have q0 := RB.c0 fz
  have q1 := RB.c1 fz
  have q2 := RB.c2 fz
  have q3 := RB.c3 fz
  exact bodyPost_ret (v := .tuple #[.agg #[.int .i64 (W : Int), .int .i64 (H : Int), .slice (some ⟨q, 0, none⟩) n c, .bool false], .int .i64 s, .bool true]) (by simp [results, Try.results14, go_sem, q0, q1, q2, q3]) rfl ⟨rfl, tz⟩
end Go.Proofs.Ytfgcbhcfekonnaa
