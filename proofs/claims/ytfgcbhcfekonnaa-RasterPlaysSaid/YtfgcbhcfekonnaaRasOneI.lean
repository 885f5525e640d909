/- One call of both: Free. -/
import Derived.Test.YtfgcbhcfekonnaaRasOne1

namespace Go.Proofs.Ytfgcbhcfekonnaa
open Go.RowKit
set_option linter.unusedVariables false
set_option linter.unusedSimpArgs false

set_option maxRecDepth 100000 in
set_option maxHeartbeats 4000000 in
theorem one7_free_no {w : World} {r g b d W H q n c : Nat} {X : Int} {Y : Int} {k p s : Int} {o : Bool} {L : List Qc} {qc : Qc} (D : Dim W H n L) (hI : Ins r g b d q w.heap.size) (hq0 : q < w.heap.size) (A : RasAt w r g b (W : Int) (H : Int) false) (M : false = true → BufAt w b g d (flat L)) (G : LedAt w g (LR k p s)) (Q : QAt w q 0 L) (hnc : n ≤ c) :
    Calls Try.prog 14 #[.pointer (some ⟨r, 0, none⟩), .agg (refC (W : Int) (H : Int) q n c false), .agg (opR 7 X Y qc), .pointer (some ⟨g, 0, none⟩), .int .i64 s] w fun e w' => e = .returned (.tuple #[.agg (refC (W : Int) (H : Int) q n c false), .int .i64 s, .bool true]) ∧ OneEndR w w' r g b d W H q false L (LR k p s) := by
  obtain ⟨wA, hwA⟩ : ∃ wA, wA = (((w.alloc (.cells #[.int .i64 (W : Int), .int .i64 (H : Int), .slice (some ⟨q, 0, none⟩) n c, .bool false] 34)).alloc (.cells #[.int .i64 7, .int .i64 X, .int .i64 Y, .int .u8 (qc.r.toNat : Int), .int .u8 (qc.g.toNat : Int), .int .u8 (qc.b.toNat : Int), .int .u8 (qc.a.toNat : Int)] 41)).alloc (.cells #[.int .i64 0, .int .i64 0, .slice none 0 0, .bool false] 34)) := ⟨_, rfl⟩
  have HQ : Hid (OneR wA w.heap.size r g b d W H q n c false L 7 X Y qc false L (LR k p s)) := Lib.hid (by
    subst hwA
    exact ⟨((Blk.new _ _ _).alloc _).alloc _, (Blk.new_at _ _ _ (by simp)).alloc _, Blk.new_at _ _ _ (by simp), Q.below' ((((Below.refl _ _).alloc (Nat.le_refl _) _).alloc (by simp) _).alloc (by simp; omega) _), ((Blk.alloc A _).alloc _).alloc _, fun e => ⟨(((M e).blk.alloc _).alloc _).alloc _, (((M e).row.alloc _).alloc _).alloc _⟩, ((Blk.alloc G _).alloc _).alloc _⟩)
  have HT : Hid (Turn [r, b, g, d] w wA) := Lib.hid (by subst hwA; exact (((Turn.refl _ _).alloc _).alloc _).alloc _)
  have HI := Lib.hid hI
  have HD := Lib.hid D
  have ne0 : q ≠ w.heap.size + 2 := by omega
  clear A M G Q hI D
  unfold refC opR
  go_enter Try.func14, Try.ntmps14
  go_upto_region 1 with fail
  change Code.wp _ _ _ _ (((w.alloc (.cells #[.int .i64 (W : Int), .int .i64 (H : Int), .slice (some ⟨q, 0, none⟩) n c, .bool false] 34)).alloc (.cells #[.int .i64 7, .int .i64 X, .int .i64 Y, .int .u8 (qc.r.toNat : Int), .int .u8 (qc.g.toNat : Int), .int .u8 (qc.b.toNat : Int), .int .u8 (qc.a.toNat : Int)] 41)).alloc (.cells #[.int .i64 0, .int .i64 0, .slice none 0 0, .bool false] 34))
  rw [← hwA]
  clear hwA
  obtain ⟨x0, x1, x2, x3, o0, o1, o2, o3, o4, o5, o6, r0, r1, r2, r3, zx0, zx1, zx2, zx3, z0, z1, z2, z3, lx, lo, lr⟩ := HQ.out.facts
  go_upto_region 41 with (first
    | (go_at_call 12; refine (bytes_at HQ.out.G lr_bytes).mono ?_; rintro e w1 ⟨rfl, rfl⟩)
    | (go_at_call 53; refine (rasFree_no HQ.out.A).mono ?_; rintro e w1 ⟨rfl, rfl⟩))
  clear o0 o1 o2 o3 o4 o5 o6 zx0 zx1 zx2 zx3
  refine wp_region_held_drew (S := (fun w' => w'.cell? ⟨w.heap.size, 0, none⟩ = some (.int .i64 (W : Int)) ∧ w'.cell? ⟨w.heap.size, 1, none⟩ = some (.int .i64 (H : Int)) ∧ w'.cell? ⟨w.heap.size, 2, none⟩ = some (.slice (some ⟨q, 0, none⟩) n c) ∧ w'.cell? ⟨w.heap.size, 3, none⟩ = some (.bool false))) (by kernel_rfl) ⟨x0, x1, x2, x3⟩ (fun hHeld => ?_)
  refine wpAnyH_take (i := 0) (v := ?_) rfl (by kernel_rfl) (by kernel_rfl) (by kernel_rfl) (fun _ _ _ h => h) (Or.inl ⟨by kernel_rfl, ?_⟩) (by assumption) ?_
  rotate_left
  · intro w hSw; (try dsimp only at hSw); go_simp; (try with_reducible rfl)
  (try simp only [Act.put, List.setIfInBounds_toArray, List.set_cons_zero, List.set_cons_succ])
  (try simp only [List.getElem_toArray, List.getElem_cons_succ, List.getElem_cons_zero, Act.put, List.setIfInBounds_toArray, List.set_cons_zero, List.set_cons_succ])
  refine wpAnyH_take (i := 1) (v := ?_) rfl (by kernel_rfl) (by kernel_rfl) (by kernel_rfl) (fun _ _ _ h => h) (Or.inl ⟨by kernel_rfl, ?_⟩) (by assumption) ?_
  rotate_left
  · intro w hSw; (try dsimp only at hSw); go_simp; (try with_reducible rfl)
  (try simp only [Act.put, List.setIfInBounds_toArray, List.set_cons_zero, List.set_cons_succ])
  (try simp only [List.getElem_toArray, List.getElem_cons_succ, List.getElem_cons_zero, Act.put, List.setIfInBounds_toArray, List.set_cons_zero, List.set_cons_succ])
  refine wpAnyH_take (i := 2) (v := ?_) rfl (by kernel_rfl) (by kernel_rfl) (by kernel_rfl) (fun _ _ _ h => h) (Or.inl ⟨by kernel_rfl, ?_⟩) (by assumption) ?_
  rotate_left
  · intro w hSw; (try dsimp only at hSw); go_simp; (try with_reducible rfl)
  (try simp only [Act.put, List.setIfInBounds_toArray, List.set_cons_zero, List.set_cons_succ])
  (try simp only [List.getElem_toArray, List.getElem_cons_succ, List.getElem_cons_zero, Act.put, List.setIfInBounds_toArray, List.set_cons_zero, List.set_cons_succ])
  refine wpAnyH_take (i := 3) (v := ?_) rfl (by kernel_rfl) (by kernel_rfl) (by kernel_rfl) (fun _ _ _ h => h) (Or.inl ⟨by kernel_rfl, ?_⟩) (by assumption) ?_
  rotate_left
  · intro w hSw; (try dsimp only at hSw); go_simp; (try with_reducible rfl)
  (try simp only [Act.put, List.setIfInBounds_toArray, List.set_cons_zero, List.set_cons_succ])
  (try simp only [List.getElem_toArray, List.getElem_cons_succ, List.getElem_cons_zero, Act.put, List.setIfInBounds_toArray, List.set_cons_zero, List.set_cons_succ])
  refine wpAnyH_take (i := 4) (v := ?_) rfl (by kernel_rfl) (by kernel_rfl) (by kernel_rfl) (fun _ _ _ h => h) (Or.inl ⟨by kernel_rfl, ?_⟩) (by assumption) ?_
  rotate_left
  · intro w hSw; (try dsimp only at hSw); go_simp; (try with_reducible rfl)
  (try simp only [Act.put, List.setIfInBounds_toArray, List.set_cons_zero, List.set_cons_succ])
  (try simp only [List.getElem_toArray, List.getElem_cons_succ, List.getElem_cons_zero, Act.put, List.setIfInBounds_toArray, List.set_cons_zero, List.set_cons_succ])
  refine wpAnyH_take (i := 5) (v := ?_) rfl (by kernel_rfl) (by kernel_rfl) (by kernel_rfl) (fun _ _ _ h => h) (Or.inl ⟨by kernel_rfl, ?_⟩) (by assumption) ?_
  rotate_left
  · intro w hSw; (try dsimp only at hSw); go_simp; (try with_reducible rfl)
  (try simp only [Act.put, List.setIfInBounds_toArray, List.set_cons_zero, List.set_cons_succ])
  (try simp only [List.getElem_toArray, List.getElem_cons_succ, List.getElem_cons_zero, Act.put, List.setIfInBounds_toArray, List.set_cons_zero, List.set_cons_succ])
  refine wpAnyH_take (i := 7) (v := ?_) rfl (by kernel_rfl) (by kernel_rfl) (by kernel_rfl) (fun _ _ _ h => h) (Or.inl ⟨by kernel_rfl, ?_⟩) (by assumption) ?_
  rotate_left
  · intro w hSw; (try dsimp only at hSw); go_simp; (try with_reducible rfl)
  (try simp only [Act.put, List.setIfInBounds_toArray, List.set_cons_zero, List.set_cons_succ])
  (try simp only [List.getElem_toArray, List.getElem_cons_succ, List.getElem_cons_zero, Act.put, List.setIfInBounds_toArray, List.set_cons_zero, List.set_cons_succ])
  refine wpAnyH_ready (rs := [6]) (by kernel_rfl) (by simp) ?_
  refine AllReadyH.cons rfl (fun K hK => ?_) AllReadyH.nil
  go_simp
  refine (bytes_at HQ.out.drew.G lr_bytes).mono ?_
  rintro e w5 ⟨rfl, rfl⟩
  refine hK.out _ _ ⟨x0, x1, x2, x3⟩ (fun hHeld' => ?_)
  clear hK K hHeld
  (try simp only [Act.put, List.setIfInBounds_toArray, List.set_cons_zero, List.set_cons_succ])
  refine wpAnyH_take (i := 8) (v := ?_) rfl (by kernel_rfl) (by kernel_rfl) (by kernel_rfl) (fun _ _ _ h => h) (Or.inl ⟨by kernel_rfl, ?_⟩) (by assumption) ?_
  rotate_left
  · intro w hSw; (try dsimp only at hSw); go_simp; (try with_reducible rfl)
  (try simp only [Act.put, List.setIfInBounds_toArray, List.set_cons_zero, List.set_cons_succ])
  (try simp only [List.getElem_toArray, List.getElem_cons_succ, List.getElem_cons_zero, Act.put, List.setIfInBounds_toArray, List.set_cons_zero, List.set_cons_succ])
  refine wpAnyH_take (i := 9) (v := ?_) rfl (by kernel_rfl) (by kernel_rfl) (by kernel_rfl) (fun _ _ _ h => h) (Or.inl ⟨by kernel_rfl, ?_⟩) (by assumption) ?_
  rotate_left
  · intro w hSw; (try dsimp only at hSw); go_simp; (try with_reducible rfl)
  (try simp only [Act.put, List.setIfInBounds_toArray, List.set_cons_zero, List.set_cons_succ])
  (try simp only [List.getElem_toArray, List.getElem_cons_succ, List.getElem_cons_zero, Act.put, List.setIfInBounds_toArray, List.set_cons_zero, List.set_cons_succ])
  refine wpAnyH_ready (rs := [10]) (by kernel_rfl) (by simp) ?_
  refine AllReadyH.cons rfl (fun K hK => ?_) AllReadyH.nil
  go_simp
  obtain ⟨fz, tz⟩ := OneR.fin (o' := false) (HQ.out.drew) (HT.out.drew) HI.out.1 HI.out.2.1 HI.out.2.2.1 HI.out.2.2.2.1 HI.out.2.2.2.2 ne0 (Nat.le_refl _)
  have X5 : RB (stR wA.drew (w.heap.size + 2) (W : Int) (H : Int) q n c false) w.heap.size (W : Int) (H : Int) q n c false := Blk.stR (HQ.out.drew).X_ (by omega)
  refine hK.out _ (stR wA.drew (w.heap.size + 2) (W : Int) (H : Int) q n c false) ⟨X5.c0, X5.c1, X5.c2, X5.c3⟩ (fun hHeld9 => ?_)
  clear hK K hHeld'
  (try simp only [Act.put, List.setIfInBounds_toArray, List.set_cons_zero, List.set_cons_succ])
  refine wpAnyH_take (i := 11) (v := ?_) rfl (by kernel_rfl) (by kernel_rfl) (by kernel_rfl) (fun _ _ _ h => h) (Or.inl ⟨by kernel_rfl, ?_⟩) (by assumption) ?_
  rotate_left
  · intro w hSw; (try dsimp only at hSw); go_simp; (try with_reducible rfl)
  (try simp only [Act.put, List.setIfInBounds_toArray, List.set_cons_zero, List.set_cons_succ])
  (try simp only [List.getElem_toArray, List.getElem_cons_succ, List.getElem_cons_zero, Act.put, List.setIfInBounds_toArray, List.set_cons_zero, List.set_cons_succ])
  refine wpAnyH_take (i := 12) (v := ?_) rfl (by kernel_rfl) (by kernel_rfl) (by kernel_rfl) (fun _ _ _ h => h) (Or.inl ⟨by kernel_rfl, ?_⟩) (by assumption) ?_
  rotate_left
  · intro w hSw; (try dsimp only at hSw); go_simp; (try with_reducible rfl)
  (try simp only [Act.put, List.setIfInBounds_toArray, List.set_cons_zero, List.set_cons_succ])
  (try simp only [List.getElem_toArray, List.getElem_cons_succ, List.getElem_cons_zero, Act.put, List.setIfInBounds_toArray, List.set_cons_zero, List.set_cons_succ])
  refine wpAnyH_done (by kernel_rfl) ?_ _
  generalize (stR wA.drew (w.heap.size + 2) (W : Int) (H : Int) q n c false) = we at fz tz ⊢
  go_wp2_with fail
  have q0 := RB.c0 fz
  have q1 := RB.c1 fz
  have q2 := RB.c2 fz
  have q3 := RB.c3 fz
  exact bodyPost_ret (v := .tuple #[.agg #[.int .i64 (W : Int), .int .i64 (H : Int), .slice (some ⟨q, 0, none⟩) n c, .bool false], .int .i64 s, .bool true]) (by simp [results, Try.results14, go_sem, q0, q1, q2, q3]) rfl ⟨rfl, tz⟩
set_option maxRecDepth 100000 in
set_option maxHeartbeats 4000000 in
theorem one7_free_yes {w : World} {r g b d W H q n c : Nat} {X : Int} {Y : Int} {k p s : Int} {o : Bool} {L : List Qc} {qc : Qc} (D : Dim W H n L) (hI : Ins r g b d q w.heap.size) (hq0 : q < w.heap.size) (A : RasAt w r g b (W : Int) (H : Int) true) (M : true = true → BufAt w b g d (flat L)) (G : LedAt w g (LR k p s)) (Q : QAt w q 0 L) (hnc : n ≤ c) (hk : k = 4 * (n : Int)) (hk1 : k ≤ p) (hp : p ≤ 196) (hs : 0 ≤ s) (hs1 : s ≤ 100000) :
    Calls Try.prog 14 #[.pointer (some ⟨r, 0, none⟩), .agg (refC (W : Int) (H : Int) q n c true), .agg (opR 7 X Y qc), .pointer (some ⟨g, 0, none⟩), .int .i64 s] w fun e w' => e = .returned (.tuple #[.agg (refC (W : Int) (H : Int) q n c false), .int .i64 s, .bool true]) ∧ OneEndR w w' r g b d W H q false L (LR 0 p s) := by
  obtain ⟨wA, hwA⟩ : ∃ wA, wA = (((w.alloc (.cells #[.int .i64 (W : Int), .int .i64 (H : Int), .slice (some ⟨q, 0, none⟩) n c, .bool true] 34)).alloc (.cells #[.int .i64 7, .int .i64 X, .int .i64 Y, .int .u8 (qc.r.toNat : Int), .int .u8 (qc.g.toNat : Int), .int .u8 (qc.b.toNat : Int), .int .u8 (qc.a.toNat : Int)] 41)).alloc (.cells #[.int .i64 0, .int .i64 0, .slice none 0 0, .bool false] 34)) := ⟨_, rfl⟩
  have HQ : Hid (OneR wA w.heap.size r g b d W H q n c true L 7 X Y qc true L (LR k p s)) := Lib.hid (by
    subst hwA
    exact ⟨((Blk.new _ _ _).alloc _).alloc _, (Blk.new_at _ _ _ (by simp)).alloc _, Blk.new_at _ _ _ (by simp), Q.below' ((((Below.refl _ _).alloc (Nat.le_refl _) _).alloc (by simp) _).alloc (by simp; omega) _), ((Blk.alloc A _).alloc _).alloc _, fun e => ⟨(((M e).blk.alloc _).alloc _).alloc _, (((M e).row.alloc _).alloc _).alloc _⟩, ((Blk.alloc G _).alloc _).alloc _⟩)
  have HT : Hid (Turn [r, b, g, d] w wA) := Lib.hid (by subst hwA; exact (((Turn.refl _ _).alloc _).alloc _).alloc _)
  have HI := Lib.hid hI
  have HD := Lib.hid D
  have ne0 : q ≠ w.heap.size + 2 := by omega
  clear A M G Q hI D
  unfold refC opR
  have hn49 : n ≤ 49 := by have := HD.out.le; rw [← HD.out.n_] at this; exact this
  have hW7 := HD.out.w7
  have hH7 := HD.out.h7
  have hnl : H * W = n := by rw [HD.out.n_, HD.out.l_]
  have HWK : Hid (IntKind.i64.wrap (k - IntKind.i64.wrap (IntKind.i64.wrap (4 * (W : Int)) * (H : Int))) = 0) := Lib.hid (by
    rw [IntWalk.i64_in (4 * (W : Int)) (by omega), show 4 * (W : Int) = ((4 * W : Nat) : Int) by omega, prod3_in (m := 4 * W) (s := H) (p := 4 * n) (by rw [Nat.mul_assoc, Nat.mul_comm W H, hnl]) (by omega), show k - ((4 * n : Nat) : Int) = 0 by omega]
    exact IntWalk.i64_in _ (by omega))
  have HK := Lib.hid hk
  clear hk hnl
  go_enter Try.func14, Try.ntmps14
  go_upto_region 1 with fail
  change Code.wp _ _ _ _ (((w.alloc (.cells #[.int .i64 (W : Int), .int .i64 (H : Int), .slice (some ⟨q, 0, none⟩) n c, .bool true] 34)).alloc (.cells #[.int .i64 7, .int .i64 X, .int .i64 Y, .int .u8 (qc.r.toNat : Int), .int .u8 (qc.g.toNat : Int), .int .u8 (qc.b.toNat : Int), .int .u8 (qc.a.toNat : Int)] 41)).alloc (.cells #[.int .i64 0, .int .i64 0, .slice none 0 0, .bool false] 34))
  rw [← hwA]
  clear hwA
  obtain ⟨x0, x1, x2, x3, o0, o1, o2, o3, o4, o5, o6, r0, r1, r2, r3, zx0, zx1, zx2, zx3, z0, z1, z2, z3, lx, lo, lr⟩ := HQ.out.facts
  go_upto_region 42 with (first
    | (go_at_call 12; refine (bytes_at HQ.out.G lr_bytes).mono ?_; rintro e w1 ⟨rfl, rfl⟩)
    | (go_at_call 53; refine (r_free_yes HQ.out ⟨by have := HI.out.1; omega, by have := HI.out.2.1; omega, by have := HI.out.2.2.1; omega, by have := HI.out.2.2.2.1; omega, HI.out.2.2.2.2⟩ HD.out HK.out hk1 hp hs hs1).mono ?_; rintro e w2 ⟨rfl, Q2, t2⟩; have T2 := HT.out.trans t2; clear x0 x1 x2 x3 o0 o1 o2 o3 o4 o5 o6 r0 r1 r2 r3 zx0 zx1 zx2 zx3 z0 z1 z2 z3 lx lo lr; obtain ⟨x0, x1, x2, x3, o0, o1, o2, o3, o4, o5, o6, r0, r1, r2, r3, zx0, zx1, zx2, zx3, z0, z1, z2, z3, lx, lo, lr⟩ := Q2.facts))
  go_upto_region 43 with fail
  have hqx : q ≠ w.heap.size := by omega
  have Q7 := Q2.shut ⟨by have := HI.out.1; omega, by have := HI.out.2.1; omega, by have := HI.out.2.2.1; omega, by have := HI.out.2.2.2.1; omega, HI.out.2.2.2.2⟩ hqx
  have T7 := T2.set_ (g := w.heap.size) 3 (.bool false) (.inr (Nat.le_refl _))
  change Code.wp _ _ _ _ (w2.setCell ⟨w.heap.size, 3, none⟩ (.bool false))
  generalize (w2.setCell ⟨w.heap.size, 3, none⟩ (.bool false)) = w7 at Q7 T7 ⊢
  clear x0 x1 x2 x3 o0 o1 o2 o3 o4 o5 o6 r0 r1 r2 r3 zx0 zx1 zx2 zx3 z0 z1 z2 z3 lx lo lr
  obtain ⟨x0, x1, x2, x3, o0, o1, o2, o3, o4, o5, o6, r0, r1, r2, r3, zx0, zx1, zx2, zx3, z0, z1, z2, z3, lx, lo, lr⟩ := Q7.facts
  have HQ7 := Lib.hid Q7
  have HT7 := Lib.hid T7
  clear Q2 T2 Q7 T7 o0 o1 o2 o3 o4 o5 o6 zx0 zx1 zx2 zx3
  refine wp_region_held_drew (S := (fun w' => w'.cell? ⟨w.heap.size, 0, none⟩ = some (.int .i64 (W : Int)) ∧ w'.cell? ⟨w.heap.size, 1, none⟩ = some (.int .i64 (H : Int)) ∧ w'.cell? ⟨w.heap.size, 2, none⟩ = some (.slice (some ⟨q, 0, none⟩) n c) ∧ w'.cell? ⟨w.heap.size, 3, none⟩ = some (.bool false))) (by kernel_rfl) ⟨x0, x1, x2, x3⟩ (fun hHeld => ?_)
  refine wpAnyH_take (i := 0) (v := ?_) rfl (by kernel_rfl) (by kernel_rfl) (by kernel_rfl) (fun _ _ _ h => h) (Or.inl ⟨by kernel_rfl, ?_⟩) (by assumption) ?_
  rotate_left
  · intro w hSw; (try dsimp only at hSw); go_simp; (try with_reducible rfl)
  (try simp only [Act.put, List.setIfInBounds_toArray, List.set_cons_zero, List.set_cons_succ])
  (try simp only [List.getElem_toArray, List.getElem_cons_succ, List.getElem_cons_zero, Act.put, List.setIfInBounds_toArray, List.set_cons_zero, List.set_cons_succ])
  refine wpAnyH_take (i := 1) (v := ?_) rfl (by kernel_rfl) (by kernel_rfl) (by kernel_rfl) (fun _ _ _ h => h) (Or.inl ⟨by kernel_rfl, ?_⟩) (by assumption) ?_
  rotate_left
  · intro w hSw; (try dsimp only at hSw); go_simp; (try with_reducible rfl)
  (try simp only [Act.put, List.setIfInBounds_toArray, List.set_cons_zero, List.set_cons_succ])
  (try simp only [List.getElem_toArray, List.getElem_cons_succ, List.getElem_cons_zero, Act.put, List.setIfInBounds_toArray, List.set_cons_zero, List.set_cons_succ])
  refine wpAnyH_take (i := 2) (v := ?_) rfl (by kernel_rfl) (by kernel_rfl) (by kernel_rfl) (fun _ _ _ h => h) (Or.inl ⟨by kernel_rfl, ?_⟩) (by assumption) ?_
  rotate_left
  · intro w hSw; (try dsimp only at hSw); go_simp; (try with_reducible rfl)
  (try simp only [Act.put, List.setIfInBounds_toArray, List.set_cons_zero, List.set_cons_succ])
  (try simp only [List.getElem_toArray, List.getElem_cons_succ, List.getElem_cons_zero, Act.put, List.setIfInBounds_toArray, List.set_cons_zero, List.set_cons_succ])
  refine wpAnyH_take (i := 3) (v := ?_) rfl (by kernel_rfl) (by kernel_rfl) (by kernel_rfl) (fun _ _ _ h => h) (Or.inl ⟨by kernel_rfl, ?_⟩) (by assumption) ?_
  rotate_left
  · intro w hSw; (try dsimp only at hSw); go_simp; (try with_reducible rfl)
  (try simp only [Act.put, List.setIfInBounds_toArray, List.set_cons_zero, List.set_cons_succ])
  (try simp only [List.getElem_toArray, List.getElem_cons_succ, List.getElem_cons_zero, Act.put, List.setIfInBounds_toArray, List.set_cons_zero, List.set_cons_succ])
  refine wpAnyH_take (i := 4) (v := ?_) rfl (by kernel_rfl) (by kernel_rfl) (by kernel_rfl) (fun _ _ _ h => h) (Or.inl ⟨by kernel_rfl, ?_⟩) (by assumption) ?_
  rotate_left
  · intro w hSw; (try dsimp only at hSw); go_simp; (try with_reducible rfl)
  (try simp only [Act.put, List.setIfInBounds_toArray, List.set_cons_zero, List.set_cons_succ])
  (try simp only [List.getElem_toArray, List.getElem_cons_succ, List.getElem_cons_zero, Act.put, List.setIfInBounds_toArray, List.set_cons_zero, List.set_cons_succ])
  refine wpAnyH_take (i := 6) (v := ?_) rfl (by kernel_rfl) (by kernel_rfl) (by kernel_rfl) (fun _ _ _ h => h) (Or.inl ⟨by kernel_rfl, ?_⟩) (by assumption) ?_
  rotate_left
  · intro w hSw; (try dsimp only at hSw); go_simp; (try with_reducible rfl)
  (try simp only [Act.put, List.setIfInBounds_toArray, List.set_cons_zero, List.set_cons_succ])
  (try simp only [List.getElem_toArray, List.getElem_cons_succ, List.getElem_cons_zero, Act.put, List.setIfInBounds_toArray, List.set_cons_zero, List.set_cons_succ])
  refine wpAnyH_take (i := 7) (v := ?_) rfl (by kernel_rfl) (by kernel_rfl) (by kernel_rfl) (fun _ _ _ h => h) (Or.inl ⟨by kernel_rfl, ?_⟩) (by assumption) ?_
  rotate_left
  · intro w hSw; (try dsimp only at hSw); go_simp; (try with_reducible rfl)
  (try simp only [Act.put, List.setIfInBounds_toArray, List.set_cons_zero, List.set_cons_succ])
  (try simp only [List.getElem_toArray, List.getElem_cons_succ, List.getElem_cons_zero, Act.put, List.setIfInBounds_toArray, List.set_cons_zero, List.set_cons_succ])
  refine wpAnyH_take (i := 8) (v := ?_) rfl (by kernel_rfl) (by kernel_rfl) (by kernel_rfl) (fun _ _ _ h => h) (Or.inl ⟨by kernel_rfl, ?_⟩) (by assumption) ?_
  rotate_left
  · intro w hSw; (try dsimp only at hSw); go_simp; (try with_reducible rfl)
  (try simp only [Act.put, List.setIfInBounds_toArray, List.set_cons_zero, List.set_cons_succ])
  (try simp only [List.getElem_toArray, List.getElem_cons_succ, List.getElem_cons_zero, Act.put, List.setIfInBounds_toArray, List.set_cons_zero, List.set_cons_succ])
  refine wpAnyH_take (i := 9) (v := ?_) rfl (by kernel_rfl) (by kernel_rfl) (by kernel_rfl) (fun _ _ _ h => h) (Or.inl ⟨by kernel_rfl, ?_⟩) (by assumption) ?_
  rotate_left
  · intro w hSw; (try dsimp only at hSw); go_simp; (try with_reducible rfl)
  (try simp only [Act.put, List.setIfInBounds_toArray, List.set_cons_zero, List.set_cons_succ])
  (try simp only [List.getElem_toArray, List.getElem_cons_succ, List.getElem_cons_zero, Act.put, List.setIfInBounds_toArray, List.set_cons_zero, List.set_cons_succ])
  refine wpAnyH_take (i := 10) (v := ?_) rfl (by kernel_rfl) (by kernel_rfl) (by kernel_rfl) (fun _ _ _ h => h) (Or.inl ⟨by kernel_rfl, ?_⟩) (by assumption) ?_
  rotate_left
  · intro w hSw; (try dsimp only at hSw); go_simp; (try with_reducible rfl)
  (try simp only [Act.put, List.setIfInBounds_toArray, List.set_cons_zero, List.set_cons_succ])
  (try simp only [List.getElem_toArray, List.getElem_cons_succ, List.getElem_cons_zero, Act.put, List.setIfInBounds_toArray, List.set_cons_zero, List.set_cons_succ])
  refine wpAnyH_take (i := 11) (v := ?_) rfl (by kernel_rfl) (by kernel_rfl) (by kernel_rfl) (fun _ _ _ h => h) (Or.inl ⟨by kernel_rfl, ?_⟩) (by assumption) ?_
  rotate_left
  · intro w hSw; (try dsimp only at hSw); go_simp; (try with_reducible rfl)
  (try simp only [Act.put, List.setIfInBounds_toArray, List.set_cons_zero, List.set_cons_succ])
  (try simp only [List.getElem_toArray, List.getElem_cons_succ, List.getElem_cons_zero, Act.put, List.setIfInBounds_toArray, List.set_cons_zero, List.set_cons_succ])
  refine wpAnyH_take (i := 12) (v := ?_) rfl (by kernel_rfl) (by kernel_rfl) (by kernel_rfl) (fun _ _ _ h => h) (Or.inl ⟨by kernel_rfl, ?_⟩) (by assumption) ?_
  rotate_left
  · intro w hSw; (try dsimp only at hSw); go_simp; (try with_reducible rfl)
  (try simp only [Act.put, List.setIfInBounds_toArray, List.set_cons_zero, List.set_cons_succ])
  (try simp only [List.getElem_toArray, List.getElem_cons_succ, List.getElem_cons_zero, Act.put, List.setIfInBounds_toArray, List.set_cons_zero, List.set_cons_succ])
  refine wpAnyH_take (i := 13) (v := ?_) rfl (by kernel_rfl) (by kernel_rfl) (by kernel_rfl) (fun _ _ _ h => h) (Or.inl ⟨by kernel_rfl, ?_⟩) (by assumption) ?_
  rotate_left
  · intro w hSw; (try dsimp only at hSw); go_simp; (try with_reducible rfl)
  (try simp only [Act.put, List.setIfInBounds_toArray, List.set_cons_zero, List.set_cons_succ])
  (try simp only [List.getElem_toArray, List.getElem_cons_succ, List.getElem_cons_zero, Act.put, List.setIfInBounds_toArray, List.set_cons_zero, List.set_cons_succ])
  (try rw [HWK.out])
  refine wpAnyH_ready (rs := [5]) (by kernel_rfl) (by simp) ?_
  refine AllReadyH.cons rfl (fun K hK => ?_) AllReadyH.nil
  go_simp
  refine (bytes_at HQ7.out.drew.G lr_bytes).mono ?_
  rintro e w5 ⟨rfl, rfl⟩
  refine hK.out _ _ ⟨x0, x1, x2, x3⟩ (fun hHeld' => ?_)
  clear hK K hHeld
  (try simp only [Act.put, List.setIfInBounds_toArray, List.set_cons_zero, List.set_cons_succ])
  refine wpAnyH_take (i := 14) (v := ?_) rfl (by kernel_rfl) (by kernel_rfl) (by kernel_rfl) (fun _ _ _ h => h) (Or.inl ⟨by kernel_rfl, ?_⟩) (by assumption) ?_
  rotate_left
  · intro w hSw; (try dsimp only at hSw); go_simp; (try with_reducible rfl)
  (try simp only [Act.put, List.setIfInBounds_toArray, List.set_cons_zero, List.set_cons_succ])
  (try simp only [List.getElem_toArray, List.getElem_cons_succ, List.getElem_cons_zero, Act.put, List.setIfInBounds_toArray, List.set_cons_zero, List.set_cons_succ])
  refine wpAnyH_take (i := 15) (v := ?_) rfl (by kernel_rfl) (by kernel_rfl) (by kernel_rfl) (fun _ _ _ h => h) (Or.inl ⟨by kernel_rfl, ?_⟩) (by assumption) ?_
  rotate_left
  · intro w hSw; (try dsimp only at hSw); go_simp; (try with_reducible rfl)
  (try simp only [Act.put, List.setIfInBounds_toArray, List.set_cons_zero, List.set_cons_succ])
  (try simp only [List.getElem_toArray, List.getElem_cons_succ, List.getElem_cons_zero, Act.put, List.setIfInBounds_toArray, List.set_cons_zero, List.set_cons_succ])
  refine wpAnyH_ready (rs := [16]) (by kernel_rfl) (by simp) ?_
  refine AllReadyH.cons rfl (fun K hK => ?_) AllReadyH.nil
  go_simp
  obtain ⟨fz, tz⟩ := OneR.fin (o' := false) (HQ7.out.drew) (HT7.out.drew) HI.out.1 HI.out.2.1 HI.out.2.2.1 HI.out.2.2.2.1 HI.out.2.2.2.2 ne0 (Nat.le_refl _)
  have X5 : RB (stR w7.drew (w.heap.size + 2) (W : Int) (H : Int) q n c false) w.heap.size (W : Int) (H : Int) q n c false := Blk.stR (HQ7.out.drew).X_ (by omega)
  refine hK.out _ (stR w7.drew (w.heap.size + 2) (W : Int) (H : Int) q n c false) ⟨X5.c0, X5.c1, X5.c2, X5.c3⟩ (fun hHeld9 => ?_)
  clear hK K hHeld'
  (try simp only [Act.put, List.setIfInBounds_toArray, List.set_cons_zero, List.set_cons_succ])
  refine wpAnyH_take (i := 17) (v := ?_) rfl (by kernel_rfl) (by kernel_rfl) (by kernel_rfl) (fun _ _ _ h => h) (Or.inl ⟨by kernel_rfl, ?_⟩) (by assumption) ?_
  rotate_left
  · intro w hSw; (try dsimp only at hSw); go_simp; (try with_reducible rfl)
  (try simp only [Act.put, List.setIfInBounds_toArray, List.set_cons_zero, List.set_cons_succ])
  (try simp only [List.getElem_toArray, List.getElem_cons_succ, List.getElem_cons_zero, Act.put, List.setIfInBounds_toArray, List.set_cons_zero, List.set_cons_succ])
  refine wpAnyH_take (i := 18) (v := ?_) rfl (by kernel_rfl) (by kernel_rfl) (by kernel_rfl) (fun _ _ _ h => h) (Or.inl ⟨by kernel_rfl, ?_⟩) (by assumption) ?_
  rotate_left
  · intro w hSw; (try dsimp only at hSw); go_simp; (try with_reducible rfl)
  (try simp only [Act.put, List.setIfInBounds_toArray, List.set_cons_zero, List.set_cons_succ])
  (try simp only [List.getElem_toArray, List.getElem_cons_succ, List.getElem_cons_zero, Act.put, List.setIfInBounds_toArray, List.set_cons_zero, List.set_cons_succ])
  refine wpAnyH_done (by kernel_rfl) ?_ _
  generalize (stR w7.drew (w.heap.size + 2) (W : Int) (H : Int) q n c false) = we at fz tz ⊢
  go_wp2_with fail
  have q0 := RB.c0 fz
  have q1 := RB.c1 fz
  have q2 := RB.c2 fz
  have q3 := RB.c3 fz
  exact bodyPost_ret (v := .tuple #[.agg #[.int .i64 (W : Int), .int .i64 (H : Int), .slice (some ⟨q, 0, none⟩) n c, .bool false], .int .i64 s, .bool true]) (by simp [results, Try.results14, go_sem, q0, q1, q2, q3]) rfl ⟨rfl, tz⟩
end Go.Proofs.Ytfgcbhcfekonnaa
