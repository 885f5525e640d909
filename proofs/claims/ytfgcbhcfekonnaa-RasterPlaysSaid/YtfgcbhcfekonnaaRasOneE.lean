/- One call of both: Get. -/
import Derived.Test.YtfgcbhcfekonnaaRasOne1
import Derived.BigRegion
namespace Go.Proofs.Ytfgcbhcfekonnaa
open Go.RowKit
set_option linter.unusedVariables false
set_option linter.unusedSimpArgs false

set_option maxRecDepth 100000 in
set_option maxHeartbeats 4000000 in
theorem one7_get_yes {w : World} {r g b d W H q n c : Nat} {X : Nat} {Y : Nat} {k p s : Int} {o : Bool} {L : List Qc} {qc : Qc} (D : Dim W H n L) (hI : Ins r g b d q w.heap.size) (hq0 : q < w.heap.size) (A : RasAt w r g b (W : Int) (H : Int) true) (M : true = true → BufAt w b g d (flat L)) (G : LedAt w g (LR k p s)) (Q : QAt w q 0 L) (hnc : n ≤ c) (hX : X < W) (hY : Y < H) :
    Calls Try.prog 14 #[.pointer (some ⟨r, 0, none⟩), .agg (refC (W : Int) (H : Int) q n c true), .agg (opR 2 (X : Int) (Y : Int) qc), .pointer (some ⟨g, 0, none⟩), .int .i64 s] w fun e w' => e = .returned (.tuple #[.agg (refC (W : Int) (H : Int) q n c true), .int .i64 s, .bool true]) ∧ OneEndR w w' r g b d W H q true L (LR k p s) := by
  obtain ⟨wA, hwA⟩ : ∃ wA, wA = (((w.alloc (.cells #[.int .i64 (W : Int), .int .i64 (H : Int), .slice (some ⟨q, 0, none⟩) n c, .bool true] 34)).alloc (.cells #[.int .i64 2, .int .i64 (X : Int), .int .i64 (Y : Int), .int .u8 (qc.r.toNat : Int), .int .u8 (qc.g.toNat : Int), .int .u8 (qc.b.toNat : Int), .int .u8 (qc.a.toNat : Int)] 41)).alloc (.cells #[.int .i64 0, .int .i64 0, .slice none 0 0, .bool false] 34)) := ⟨_, rfl⟩
  have HQ : Hid (OneR wA w.heap.size r g b d W H q n c true L 2 (X : Int) (Y : Int) qc true L (LR k p s)) := Lib.hid (by
    subst hwA
    exact ⟨((Blk.new _ _ _).alloc _).alloc _, (Blk.new_at _ _ _ (by simp)).alloc _, Blk.new_at _ _ _ (by simp), Q.below' ((((Below.refl _ _).alloc (Nat.le_refl _) _).alloc (by simp) _).alloc (by simp; omega) _), ((Blk.alloc A _).alloc _).alloc _, fun e => ⟨(((M e).blk.alloc _).alloc _).alloc _, (((M e).row.alloc _).alloc _).alloc _⟩, ((Blk.alloc G _).alloc _).alloc _⟩)
  have HT : Hid (Turn [r, b, g, d] w wA) := Lib.hid (by subst hwA; exact (((Turn.refl _ _).alloc _).alloc _).alloc _)
  have HI := Lib.hid hI
  have HD := Lib.hid D
  have ne0 : q ≠ w.heap.size + 2 := by omega
  clear A M G Q hI D
  unfold refC opR
  obtain ⟨p0, hp0⟩ : ∃ p0, Y * W = p0 := ⟨_, rfl⟩
  obtain ⟨i, hi⟩ : ∃ i, i = p0 + X := ⟨_, rfl⟩
  have hat := HD.out.at_ hX hY
  rw [hp0, ← hi, ← HD.out.n_] at hat
  obtain ⟨hin, hpb⟩ := hat
  have hie : (p0 : Int) + (X : Int) = (i : Int) := by omega
  have hini : (i : Int) < (n : Int) := by omega
  have HWP := prod3_in hp0 (by omega)
  have hn49 : n ≤ 49 := by have := HD.out.le; rw [← HD.out.n_] at this; exact this
  obtain ⟨qd, hqd⟩ : ∃ qd, L[i]? = some qd := ⟨_, List.getElem?_eq_getElem (by rw [← HD.out.n_]; exact hin)⟩
  have HQD := Lib.hid hqd
  have HG := Lib.hid (show L[Y * W + X]? = some qd by rw [hp0, ← hi]; exact hqd)
  have HIS := Lib.hid (show IsP (W : Int) (H : Int) true (X : Int) (Y : Int) from ⟨rfl, by omega, by omega, by omega, by omega⟩)
  have HXY := Lib.hid (And.intro hX hY)
  clear hp0 hi hqd hX hY
  go_enter Try.func14, Try.ntmps14
  go_upto_region 1 with fail
  change Code.wp _ _ _ _ (((w.alloc (.cells #[.int .i64 (W : Int), .int .i64 (H : Int), .slice (some ⟨q, 0, none⟩) n c, .bool true] 34)).alloc (.cells #[.int .i64 2, .int .i64 (X : Int), .int .i64 (Y : Int), .int .u8 (qc.r.toNat : Int), .int .u8 (qc.g.toNat : Int), .int .u8 (qc.b.toNat : Int), .int .u8 (qc.a.toNat : Int)] 41)).alloc (.cells #[.int .i64 0, .int .i64 0, .slice none 0 0, .bool false] 34))
  rw [← hwA]
  clear hwA
  obtain ⟨x0, x1, x2, x3, o0, o1, o2, o3, o4, o5, o6, r0, r1, r2, r3, zx0, zx1, zx2, zx3, z0, z1, z2, z3, lx, lo, lr⟩ := HQ.out.facts
  go_upto_region 12 with (first
    | (go_at_call 45; refine (r_get_yes HQ.out HD.out HXY.out.1 HXY.out.2 HG.out).mono ?_; rintro e w1 ⟨rfl, b1⟩; have Q1 := HQ.out.below b1; have T1 := HT.out.trans (Turn.of_below b1); obtain ⟨x0, x1, x2, x3, o0, o1, o2, o3, o4, o5, o6, r0, r1, r2, r3, zx0, zx1, zx2, zx3, z0, z1, z2, z3, lx, lo, lr⟩ := Q1.facts))
  have B2 : Below w1.heap.size w1 (w1.alloc (.cells #[.int .u8 (qd.r.toNat : Int), .int .u8 (qd.g.toNat : Int), .int .u8 (qd.b.toNat : Int), .int .u8 (qd.a.toNat : Int)] 39)) := (Below.refl _ _).alloc (Nat.le_refl _) _
  have C2 : CB (w1.alloc (.cells #[.int .u8 (qd.r.toNat : Int), .int .u8 (qd.g.toNat : Int), .int .u8 (qd.b.toNat : Int), .int .u8 (qd.a.toNat : Int)] 39)) w1.heap.size (qd.r.toNat : Int) (qd.g.toNat : Int) (qd.b.toNat : Int) (qd.a.toNat : Int) := Blk.new _ _ _
  have hcb : w.heap.size + 2 < w1.heap.size := lr
  change Code.wp _ _ _ _ (w1.alloc (.cells #[.int .u8 (qd.r.toNat : Int), .int .u8 (qd.g.toNat : Int), .int .u8 (qd.b.toNat : Int), .int .u8 (qd.a.toNat : Int)] 39))
  generalize (w1.alloc (.cells #[.int .u8 (qd.r.toNat : Int), .int .u8 (qd.g.toNat : Int), .int .u8 (qd.b.toNat : Int), .int .u8 (qd.a.toNat : Int)] 39)) = w2 at B2 C2 ⊢
  have Q2 := Q1.below B2
  have T2 := T1.trans (Turn.of_below B2)
  obtain ⟨cb, hcbe⟩ : ∃ cb, cb = w1.heap.size := ⟨_, rfl⟩
  rw [← hcbe] at C2 hcb ⊢
  clear hcbe B2
  clear x0 x1 x2 x3 o0 o1 o2 o3 o4 o5 o6 r0 r1 r2 r3 zx0 zx1 zx2 zx3 z0 z1 z2 z3 lx lo lr
  obtain ⟨x0, x1, x2, x3, o0, o1, o2, o3, o4, o5, o6, r0, r1, r2, r3, zx0, zx1, zx2, zx3, z0, z1, z2, z3, lx, lo, lr⟩ := Q2.facts
  go_upto_region 14 with (first
    | (go_at_call 43; refine (refIs_yes HIS.out _).mono ?_; rintro e w3 ⟨rfl, b3⟩; have Q3 := Q2.below b3; have T3 := T2.trans (Turn.of_below b3); have C3 : CB w3 cb (qd.r.toNat : Int) (qd.g.toNat : Int) (qd.b.toNat : Int) (qd.a.toNat : Int) := Blk.below C2 b3 (Blk.lt C2); clear x0 x1 x2 x3 o0 o1 o2 o3 o4 o5 o6 r0 r1 r2 r3 zx0 zx1 zx2 zx3 z0 z1 z2 z3 lx lo lr; obtain ⟨x0, x1, x2, x3, o0, o1, o2, o3, o4, o5, o6, r0, r1, r2, r3, zx0, zx1, zx2, zx3, z0, z1, z2, z3, lx, lo, lr⟩ := Q3.facts))
  have d0 := C3.c0
  have d1 := C3.c1
  have d2 := C3.c2
  have d3 := C3.c3
  have HQ3 := Lib.hid Q3
  have HT3 := Lib.hid T3
  have HC3 := Lib.hid C3
  clear Q1 Q2 Q3 T1 T2 T3 C2 C3
  obtain ⟨k0, k1, k2, k3⟩ := HQ3.out.Q i qd HQD.out
  rw [Nat.zero_add] at k0 k1 k2 k3
  go_region
  all_goals go_wp2_with fail
  obtain ⟨fz, tz⟩ := OneR.fin (o' := true) (HQ3.out) (HT3.out) HI.out.1 HI.out.2.1 HI.out.2.2.1 HI.out.2.2.2.1 HI.out.2.2.2.2 ne0 (Nat.le_refl _)
  replace fz : RB ((stR w3 (w.heap.size + 2) (W : Int) (H : Int) q n c true).drew) (w.heap.size + 2) (W : Int) (H : Int) q n c true := Blk.drew fz
  replace tz := OneEndR.drew tz
  change bodyPost _ _ _ _ _ ((stR w3 (w.heap.size + 2) (W : Int) (H : Int) q n c true).drew)
  generalize ((stR w3 (w.heap.size + 2) (W : Int) (H : Int) q n c true).drew) = we at fz tz ⊢
  have q0 := RB.c0 fz
  have q1 := RB.c1 fz
  have q2 := RB.c2 fz
  have q3 := RB.c3 fz
  exact bodyPost_ret (v := .tuple #[.agg #[.int .i64 (W : Int), .int .i64 (H : Int), .slice (some ⟨q, 0, none⟩) n c, .bool true], .int .i64 s, .bool true]) (by simp [results, Try.results14, go_sem, q0, q1, q2, q3]) rfl ⟨rfl, tz⟩
end Go.Proofs.Ytfgcbhcfekonnaa
