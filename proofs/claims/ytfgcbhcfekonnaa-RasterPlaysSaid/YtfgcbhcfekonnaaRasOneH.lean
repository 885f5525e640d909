/- One call of both: Image, of an open raster. -/
import Derived.Test.YtfgcbhcfekonnaaRasOne1
import Derived.Test.YtfgcbhcfekonnaaRasOneG
namespace Go.Proofs.Ytfgcbhcfekonnaa
open Go.RowKit
set_option linter.unusedVariables false
set_option linter.unusedSimpArgs false

theorem refSamebR {W H W2 H2 : Int} {l m : List UInt8} {b : Bool} (hb : decide (SameP W H W2 H2 l m) = b) {w : World} {a a' : Option Addr} {n n' c c' : Nat} (h1 : BytesAt w a n l) (h2 : BytesAt w a' n' m) :
    Calls Try.prog 29 #[.agg #[.int .i64 W, .int .i64 H, .slice a n c], .agg #[.int .i64 W2, .int .i64 H2, .slice a' n' c']] w fun e w' => e = .returned (.bool b) ∧ Below w.heap.size w w' := by
  subst hb; exact refSame7_any h1 h2
set_option maxRecDepth 100000 in
set_option maxHeartbeats 4000000 in
theorem one7_image_yes {w : World} {r g b d W H q n c : Nat} {X : Int} {Y : Int} {k p s : Int} {o : Bool} {L : List Qc} {qc : Qc} (D : Dim W H n L) (hI : Ins r g b d q w.heap.size) (hq0 : q < w.heap.size) (A : RasAt w r g b (W : Int) (H : Int) true) (M : true = true → BufAt w b g d (flat L)) (G : LedAt w g (LR k p s)) (Q : QAt w q 0 L) (hnc : n ≤ c) :
    Calls Try.prog 14 #[.pointer (some ⟨r, 0, none⟩), .agg (refC (W : Int) (H : Int) q n c true), .agg (opR 6 X Y qc), .pointer (some ⟨g, 0, none⟩), .int .i64 s] w fun e w' => e = .returned (.tuple #[.agg (refC (W : Int) (H : Int) q n c false), .int .i64 s, .bool true]) ∧ OneEndR w w' r g b d W H q false L (LR k p s) := by
  obtain ⟨wA, hwA⟩ : ∃ wA, wA = (((w.alloc (.cells #[.int .i64 (W : Int), .int .i64 (H : Int), .slice (some ⟨q, 0, none⟩) n c, .bool true] 34)).alloc (.cells #[.int .i64 6, .int .i64 X, .int .i64 Y, .int .u8 (qc.r.toNat : Int), .int .u8 (qc.g.toNat : Int), .int .u8 (qc.b.toNat : Int), .int .u8 (qc.a.toNat : Int)] 41)).alloc (.cells #[.int .i64 0, .int .i64 0, .slice none 0 0, .bool false] 34)) := ⟨_, rfl⟩
  have HQ : Hid (OneR wA w.heap.size r g b d W H q n c true L 6 X Y qc true L (LR k p s)) := Lib.hid (by
    subst hwA
    exact ⟨((Blk.new _ _ _).alloc _).alloc _, (Blk.new_at _ _ _ (by simp)).alloc _, Blk.new_at _ _ _ (by simp), Q.below' ((((Below.refl _ _).alloc (Nat.le_refl _) _).alloc (by simp) _).alloc (by simp; omega) _), ((Blk.alloc A _).alloc _).alloc _, fun e => ⟨(((M e).blk.alloc _).alloc _).alloc _, (((M e).row.alloc _).alloc _).alloc _⟩, ((Blk.alloc G _).alloc _).alloc _⟩)
  have HT : Hid (Turn [r, b, g, d] w wA) := Lib.hid (by subst hwA; exact (((Turn.refl _ _).alloc _).alloc _).alloc _)
  have HI := Lib.hid hI
  have HD := Lib.hid D
  have ne0 : q ≠ w.heap.size + 2 := by omega
  have hnc9 := hnc
  clear A M G Q hI D
  unfold refC opR
  have hn49 : n ≤ 49 := by have := HD.out.le; rw [← HD.out.n_] at this; exact this
  have HIM : Hid (∀ v : World, QAt v q 0 L → Calls Try.prog 52 #[.agg #[.int .i64 (W : Int), .int .i64 (H : Int), .slice (some ⟨q, 0, none⟩) n c, .bool true]] v fun e w' => ∃ d c', e = .returned (.agg #[.int .i64 (W : Int), .int .i64 (H : Int), .slice (some ⟨d, 0, none⟩) (4 * n) c']) ∧ BytesAt w' (some ⟨d, 0, none⟩) (4 * n) (flat L) ∧ Below v.heap.size v w') := Lib.hid (fun v hv => refImage7 HD.out.n_ hnc9 (by omega) hv)
  go_enter Try.func14, Try.ntmps14
  go_upto_region 1 with fail
  change Code.wp _ _ _ _ (((w.alloc (.cells #[.int .i64 (W : Int), .int .i64 (H : Int), .slice (some ⟨q, 0, none⟩) n c, .bool true] 34)).alloc (.cells #[.int .i64 6, .int .i64 X, .int .i64 Y, .int .u8 (qc.r.toNat : Int), .int .u8 (qc.g.toNat : Int), .int .u8 (qc.b.toNat : Int), .int .u8 (qc.a.toNat : Int)] 41)).alloc (.cells #[.int .i64 0, .int .i64 0, .slice none 0 0, .bool false] 34))
  rw [← hwA]
  clear hwA
  obtain ⟨x0, x1, x2, x3, o0, o1, o2, o3, o4, o5, o6, r0, r1, r2, r3, zx0, zx1, zx2, zx3, z0, z1, z2, z3, lx, lo, lr⟩ := HQ.out.facts
  go_upto_region 32 with (first
    | (go_at_call 51; refine (r_image_yes HQ.out ⟨by have := HI.out.1; omega, by have := HI.out.2.1; omega, by have := HI.out.2.2.1; omega, by have := HI.out.2.2.2.1; omega, HI.out.2.2.2.2⟩ HD.out).mono ?_; rintro e w1 ⟨rfl, Q1, D1, t1⟩; have T1 := HT.out.trans t1; clear x0 x1 x2 x3 o0 o1 o2 o3 o4 o5 o6 r0 r1 r2 r3 zx0 zx1 zx2 zx3 z0 z1 z2 z3 lx lo lr; obtain ⟨x0, x1, x2, x3, o0, o1, o2, o3, o4, o5, o6, r0, r1, r2, r3, zx0, zx1, zx2, zx3, z0, z1, z2, z3, lx, lo, lr⟩ := Q1.facts))
  have B2 : Below w1.heap.size w1 (w1.alloc (.cells #[.int .i64 (W : Int), .int .i64 (H : Int), .slice (some ⟨d, 0, none⟩) (4 * n) (4 * n)] 46)) := (Below.refl _ _).alloc (Nat.le_refl _) _
  have C2 : Blk (w1.alloc (.cells #[.int .i64 (W : Int), .int .i64 (H : Int), .slice (some ⟨d, 0, none⟩) (4 * n) (4 * n)] 46)) w1.heap.size 46 #[.int .i64 (W : Int), .int .i64 (H : Int), .slice (some ⟨d, 0, none⟩) (4 * n) (4 * n)] := Blk.new _ _ _
  have hcb : w.heap.size + 2 < w1.heap.size := lr
  change Code.wp _ _ _ _ (w1.alloc (.cells #[.int .i64 (W : Int), .int .i64 (H : Int), .slice (some ⟨d, 0, none⟩) (4 * n) (4 * n)] 46))
  generalize (w1.alloc (.cells #[.int .i64 (W : Int), .int .i64 (H : Int), .slice (some ⟨d, 0, none⟩) (4 * n) (4 * n)] 46)) = w2 at B2 C2 ⊢
  have Q2 := Q1.below B2
  have T2 := T1.trans (Turn.of_below B2)
  have D2 := D1.below B2
  obtain ⟨cb, hcbe⟩ : ∃ cb, cb = w1.heap.size := ⟨_, rfl⟩
  rw [← hcbe] at C2 hcb ⊢
  clear hcbe B2 x0 x1 x2 x3 o0 o1 o2 o3 o4 o5 o6 r0 r1 r2 r3 zx0 zx1 zx2 zx3 z0 z1 z2 z3 lx lo lr
  obtain ⟨x0, x1, x2, x3, o0, o1, o2, o3, o4, o5, o6, r0, r1, r2, r3, zx0, zx1, zx2, zx3, z0, z1, z2, z3, lx, lo, lr⟩ := Q2.facts
  go_upto_region 34 with fail
  have HQ3 := Lib.hid Q2
  have HT3 := Lib.hid T2
  have HC3 := Lib.hid C2
  have HD3 := Lib.hid D2
  have d0 := Blk.cell C2 0
  have d1 := Blk.cell C2 1
  have d2 := Blk.cell C2 2
  clear Q1 Q2 T1 T2 C2 D1 D2 o0 o1 o2 o3 o4 o5 o6 r0 r1 r2 r3 zx0 zx1 zx2 zx3 z0 z1 z2 z3 lx lo lr
  refine wp_region_held_drew (S := (fun w' => w'.cell? ⟨w.heap.size, 0, none⟩ = some (.int .i64 (W : Int)) ∧ w'.cell? ⟨w.heap.size, 1, none⟩ = some (.int .i64 (H : Int)) ∧ w'.cell? ⟨w.heap.size, 2, none⟩ = some (.slice (some ⟨q, 0, none⟩) n c) ∧ w'.cell? ⟨w.heap.size, 3, none⟩ = some (.bool true) ∧ w'.cell? ⟨cb, 0, none⟩ = some (.int .i64 (W : Int)) ∧ w'.cell? ⟨cb, 1, none⟩ = some (.int .i64 (H : Int)) ∧ w'.cell? ⟨cb, 2, none⟩ = some (.slice (some ⟨d, 0, none⟩) (4 * n) (4 * n)))) (by kernel_rfl) ⟨x0, x1, x2, x3, d0, d1, d2⟩ (fun hHeld => ?_)
  refine wpAnyH_take (i := 0) (v := ?_) rfl (by kernel_rfl) (by kernel_rfl) (by kernel_rfl) (fun _ _ _ h => h) (Or.inl ⟨by kernel_rfl, ?_⟩) (by assumption) ?_
  rotate_left
  · intro w hSw; (try dsimp only at hSw); go_simp; (try with_reducible rfl)
  (try simp only [Act.put, List.setIfInBounds_toArray, List.set_cons_zero, List.set_cons_succ])
  (try simp only [List.getElem_toArray, List.getElem_cons_succ, List.getElem_cons_zero, Act.put, List.setIfInBounds_toArray, List.set_cons_zero, List.set_cons_succ])
  refine wpAnyH_take (i := 1) (v := ?_) rfl (by kernel_rfl) (by kernel_rfl) (by kernel_rfl) (fun _ _ _ h => h) (Or.inl ⟨by kernel_rfl, ?_⟩) (by assumption) ?_
  rotate_left
  · intro w hSw; (try dsimp only at hSw); go_simp; (try with_reducible rfl)
  (try simp only [Act.put, List.setIfInBounds_toArray, List.set_cons_zero, List.set_cons_succ])
  (try simp only [List.getElem_toArray, List.getElem_cons_succ, List.getElem_cons_zero, Act.put, List.setIfInBounds_toArray, List.set_cons_zero, List.set_cons_succ])
  refine wpAnyH_take (i := 2) (v := ?_) rfl (by kernel_rfl) (by kernel_rfl) (by kernel_rfl) (fun _ _ _ h => h) (Or.inl ⟨by kernel_rfl, ?_⟩) (by assumption) ?_
  rotate_left
  · intro w hSw; (try dsimp only at hSw); go_simp; (try with_reducible rfl)
  (try simp only [Act.put, List.setIfInBounds_toArray, List.set_cons_zero, List.set_cons_succ])
  (try simp only [List.getElem_toArray, List.getElem_cons_succ, List.getElem_cons_zero, Act.put, List.setIfInBounds_toArray, List.set_cons_zero, List.set_cons_succ])
  refine wpAnyH_take (i := 3) (v := ?_) rfl (by kernel_rfl) (by kernel_rfl) (by kernel_rfl) (fun _ _ _ h => h) (Or.inl ⟨by kernel_rfl, ?_⟩) (by assumption) ?_
  rotate_left
  · intro w hSw; (try dsimp only at hSw); go_simp; (try with_reducible rfl)
  (try simp only [Act.put, List.setIfInBounds_toArray, List.set_cons_zero, List.set_cons_succ])
  (try simp only [List.getElem_toArray, List.getElem_cons_succ, List.getElem_cons_zero, Act.put, List.setIfInBounds_toArray, List.set_cons_zero, List.set_cons_succ])
  refine wpAnyH_ready (rs := [4]) (by kernel_rfl) (by simp) ?_
  refine AllReadyH.cons rfl (fun K hK => ?_) AllReadyH.nil
  go_simp
  refine (HIM.out _ HQ3.out.drew.Q).mono ?_
  rintro e w5 ⟨d5, c5, rfl, D5, b5⟩
  have Q5 := HQ3.out.drew.below b5
  have T5 := HT3.out.drew.trans (Turn.of_below b5)
  have C5 : Blk w5 cb 46 #[.int .i64 (W : Int), .int .i64 (H : Int), .slice (some ⟨d, 0, none⟩) (4 * n) (4 * n)] := Blk.below (Blk.drew HC3.out) b5 (Blk.lt HC3.out)
  have E5 : BytesAt w5 (some ⟨d, 0, none⟩) (4 * n) (flat L) := BytesAt.below (w := w2.drew) HD3.out b5
  obtain ⟨x0, x1, x2, x3, o0, o1, o2, o3, o4, o5, o6, r0, r1, r2, r3, zx0, zx1, zx2, zx3, z0, z1, z2, z3, lx, lo, lr⟩ := Q5.facts
  refine hK.out _ _ ⟨x0, x1, x2, x3, Blk.cell C5 0, Blk.cell C5 1, Blk.cell C5 2⟩ (fun hHeld' => ?_)
  clear hK K hHeld
  (try simp only [Act.put, List.setIfInBounds_toArray, List.set_cons_zero, List.set_cons_succ])
  refine wpAnyH_ready (rs := [5]) (by kernel_rfl) (by simp) ?_
  refine AllReadyH.cons rfl (fun K hK => ?_) AllReadyH.nil
  go_simp
  refine (refSamebR (same_selfR (W : Int) (H : Int) (flat L)) E5 D5).mono ?_
  rintro e w6 ⟨rfl, b6⟩
  have Q6 := Q5.below b6
  have T6 := T5.trans (Turn.of_below b6)
  have C6 : Blk w6 cb 46 #[.int .i64 (W : Int), .int .i64 (H : Int), .slice (some ⟨d, 0, none⟩) (4 * n) (4 * n)] := Blk.below C5 b6 (Blk.lt C5)
  obtain ⟨x0, x1, x2, x3, o0, o1, o2, o3, o4, o5, o6, r0, r1, r2, r3, zx0, zx1, zx2, zx3, z0, z1, z2, z3, lx, lo, lr⟩ := Q6.facts
  refine hK.out _ _ ⟨x0, x1, x2, x3, Blk.cell C6 0, Blk.cell C6 1, Blk.cell C6 2⟩ (fun hHeld6 => ?_)
  clear hK K hHeld'
  (try simp only [Act.put, List.setIfInBounds_toArray, List.set_cons_zero, List.set_cons_succ])
  refine wpAnyH_take (i := 6) (v := ?_) rfl (by kernel_rfl) (by kernel_rfl) (by kernel_rfl) (fun _ _ _ h => h) (Or.inl ⟨by kernel_rfl, ?_⟩) (by assumption) ?_
  rotate_left
  · intro w hSw; (try dsimp only at hSw); go_simp; (try with_reducible rfl)
  (try simp only [Act.put, List.setIfInBounds_toArray, List.set_cons_zero, List.set_cons_succ])
  (try simp only [List.getElem_toArray, List.getElem_cons_succ, List.getElem_cons_zero, Act.put, List.setIfInBounds_toArray, List.set_cons_zero, List.set_cons_succ])
  refine wpAnyH_take (i := 7) (v := ?_) rfl (by kernel_rfl) (by kernel_rfl) (by kernel_rfl) (fun _ _ _ h => h) (Or.inl ⟨by kernel_rfl, ?_⟩) (by assumption) ?_
  rotate_left
  · intro w hSw; (try dsimp only at hSw); go_simp; (try with_reducible rfl)
  (try simp only [Act.put, List.setIfInBounds_toArray, List.set_cons_zero, List.set_cons_succ])
  (try simp only [List.getElem_toArray, List.getElem_cons_succ, List.getElem_cons_zero, Act.put, List.setIfInBounds_toArray, List.set_cons_zero, List.set_cons_succ])
  refine wpAnyH_done (by kernel_rfl) ?_ _
  have HQ6 := Lib.hid Q6
  have HT6 := Lib.hid T6
  clear Q5 T5 C5 D5 E5 C6 Q6 T6
  change Exit.then _ _ _ _ w6
  go_upto_region 36 with fail
  have hqx : q ≠ w.heap.size := by omega
  have Q7 := HQ6.out.shut ⟨by have := HI.out.1; omega, by have := HI.out.2.1; omega, by have := HI.out.2.2.1; omega, by have := HI.out.2.2.2.1; omega, HI.out.2.2.2.2⟩ hqx
  have T7 := HT6.out.set_ (g := w.heap.size) 3 (.bool false) (.inr (Nat.le_refl _))
  change Code.wp _ _ _ _ (w6.setCell ⟨w.heap.size, 3, none⟩ (.bool false))
  generalize (w6.setCell ⟨w.heap.size, 3, none⟩ (.bool false)) = w7 at Q7 T7 ⊢
  clear x0 x1 x2 x3 o0 o1 o2 o3 o4 o5 o6 r0 r1 r2 r3 zx0 zx1 zx2 zx3 z0 z1 z2 z3 lx lo lr
  obtain ⟨x0, x1, x2, x3, o0, o1, o2, o3, o4, o5, o6, r0, r1, r2, r3, zx0, zx1, zx2, zx3, z0, z1, z2, z3, lx, lo, lr⟩ := Q7.facts
  go_wp2_with fail
  obtain ⟨fz, tz⟩ := OneR.fin (o' := false) (Q7) (T7) HI.out.1 HI.out.2.1 HI.out.2.2.1 HI.out.2.2.2.1 HI.out.2.2.2.2 ne0 (Nat.le_refl _)
  change bodyPost _ _ _ _ _ ((stR w7 (w.heap.size + 2) (W : Int) (H : Int) q n c false))
  generalize ((stR w7 (w.heap.size + 2) (W : Int) (H : Int) q n c false)) = we at fz tz ⊢
  have q0 := RB.c0 fz
  have q1 := RB.c1 fz
  have q2 := RB.c2 fz
  have q3 := RB.c3 fz
  exact bodyPost_ret (v := .tuple #[.agg #[.int .i64 (W : Int), .int .i64 (H : Int), .slice (some ⟨q, 0, none⟩) n c, .bool false], .int .i64 s, .bool true]) (by simp [results, Try.results14, go_sem, q0, q1, q2, q3]) rfl ⟨rfl, tz⟩
end Go.Proofs.Ytfgcbhcfekonnaa
