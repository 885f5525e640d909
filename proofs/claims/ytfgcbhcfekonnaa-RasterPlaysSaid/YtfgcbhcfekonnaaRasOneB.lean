/- One call of both: Set of a pixel that is there. -/
import Derived.Test.YtfgcbhcfekonnaaRasOne1

namespace Go.Proofs.Ytfgcbhcfekonnaa
open Go.RowKit
set_option linter.unusedVariables false
set_option linter.unusedSimpArgs false

set_option maxRecDepth 100000 in
set_option maxHeartbeats 4000000 in
theorem one7_set_yes {w : World} {r g b d W H q n c : Nat} {X : Nat} {Y : Nat} {k p s : Int} {o : Bool} {L : List Qc} {qc : Qc} (D : Dim W H n L) (hI : Ins r g b d q w.heap.size) (hq0 : q < w.heap.size) (A : RasAt w r g b (W : Int) (H : Int) true) (M : true = true → BufAt w b g d (flat L)) (G : LedAt w g (LR k p s)) (Q : QAt w q 0 L) (hnc : n ≤ c) (hX : X < W) (hY : Y < H) (hk0 : 0 ≤ k) (hk1 : k ≤ p) (hp : p ≤ 196) (hs : 0 ≤ s) (hs1 : s ≤ 99000) :
    Calls Try.prog 14 #[.pointer (some ⟨r, 0, none⟩), .agg (refC (W : Int) (H : Int) q n c true), .agg (opR 1 (X : Int) (Y : Int) qc), .pointer (some ⟨g, 0, none⟩), .int .i64 s] w fun e w' => ∃ q' c', e = .returned (.tuple #[.agg (refC (W : Int) (H : Int) q' n c' true), .int .i64 (s + 1), .bool true]) ∧ n ≤ c' ∧ OneEndR w w' r g b d W H q' true (L.set (Y * W + X) qc) (LR k p (s + 1)) := by
  obtain ⟨wA, hwA⟩ : ∃ wA, wA = (((w.alloc (.cells #[.int .i64 (W : Int), .int .i64 (H : Int), .slice (some ⟨q, 0, none⟩) n c, .bool true] 34)).alloc (.cells #[.int .i64 1, .int .i64 (X : Int), .int .i64 (Y : Int), .int .u8 (qc.r.toNat : Int), .int .u8 (qc.g.toNat : Int), .int .u8 (qc.b.toNat : Int), .int .u8 (qc.a.toNat : Int)] 41)).alloc (.cells #[.int .i64 0, .int .i64 0, .slice none 0 0, .bool false] 34)) := ⟨_, rfl⟩
  have HQ : Hid (OneR wA w.heap.size r g b d W H q n c true L 1 (X : Int) (Y : Int) qc true L (LR k p s)) := Lib.hid (by
    subst hwA
    exact ⟨((Blk.new _ _ _).alloc _).alloc _, (Blk.new_at _ _ _ (by simp)).alloc _, Blk.new_at _ _ _ (by simp), Q.below' ((((Below.refl _ _).alloc (Nat.le_refl _) _).alloc (by simp) _).alloc (by simp; omega) _), ((Blk.alloc A _).alloc _).alloc _, fun e => ⟨(((M e).blk.alloc _).alloc _).alloc _, (((M e).row.alloc _).alloc _).alloc _⟩, ((Blk.alloc G _).alloc _).alloc _⟩)
  have HT : Hid (Turn [r, b, g, d] w wA) := Lib.hid (by subst hwA; exact (((Turn.refl _ _).alloc _).alloc _).alloc _)
  have HI := Lib.hid hI
  have HD := Lib.hid D
  have ne0 : q ≠ w.heap.size + 2 := by omega
  clear A M G Q hI D
  unfold refC opR
  have HIS := Lib.hid (show IsP (W : Int) (H : Int) true (X : Int) (Y : Int) from ⟨rfl, by omega, by omega, by omega, by omega⟩)
  have HAT := Lib.hid (HD.out.at_ hX hY)
  go_enter Try.func14, Try.ntmps14
  go_upto_region 1 with fail
  change Code.wp _ _ _ _ (((w.alloc (.cells #[.int .i64 (W : Int), .int .i64 (H : Int), .slice (some ⟨q, 0, none⟩) n c, .bool true] 34)).alloc (.cells #[.int .i64 1, .int .i64 (X : Int), .int .i64 (Y : Int), .int .u8 (qc.r.toNat : Int), .int .u8 (qc.g.toNat : Int), .int .u8 (qc.b.toNat : Int), .int .u8 (qc.a.toNat : Int)] 41)).alloc (.cells #[.int .i64 0, .int .i64 0, .slice none 0 0, .bool false] 34))
  rw [← hwA]
  clear hwA
  obtain ⟨x0, x1, x2, x3, o0, o1, o2, o3, o4, o5, o6, r0, r1, r2, r3, zx0, zx1, zx2, zx3, z0, z1, z2, z3, lx, lo, lr⟩ := HQ.out.facts
  go_upto_region 9 with (first
    | (go_at_call 42; refine (r_set_yes HQ.out ⟨by have := HI.out.1; omega, by have := HI.out.2.1; omega, by have := HI.out.2.2.1; omega, by have := HI.out.2.2.2.1; omega, HI.out.2.2.2.2⟩ HD.out hX hY hk0 hk1 hp hs (by omega) qc).mono ?_; rintro e w1 ⟨rfl, Q1, t1⟩; have T1 := HT.out.trans t1; obtain ⟨x0, x1, x2, x3, o0, o1, o2, o3, o4, o5, o6, r0, r1, r2, r3, zx0, zx1, zx2, zx3, z0, z1, z2, z3, lx, lo, lr⟩ := Q1.facts)
    | (go_at_call 43; refine (refIs_yes HIS.out _).mono ?_; rintro e w2 ⟨rfl, b2⟩; have Q2 := Q1.below b2; have T2 := T1.trans (Turn.of_below b2); obtain ⟨x0, x1, x2, x3, o0, o1, o2, o3, o4, o5, o6, r0, r1, r2, r3, zx0, zx1, zx2, zx3, z0, z1, z2, z3, lx, lo, lr⟩ := Q2.facts)
    | (go_at_call 44; refine (refSet7 (n := n) qc (by rw [HD.out.n_, HD.out.l_]) HD.out.n_ hX hY rfl rfl (by have := HD.out.w7; omega) (by have := HD.out.h7; omega) Q2.Q).mono ?_; rintro e w3 ⟨q', c', rfl, hq', hqs, hcs, b3⟩; (try unfold refC); have Q3 := Q2.below b3; have T3 := T2.trans (Turn.of_below b3); obtain ⟨x0, x1, x2, x3, o0, o1, o2, o3, o4, o5, o6, r0, r1, r2, r3, zx0, zx1, zx2, zx3, z0, z1, z2, z3, lx, lo, lr⟩ := Q3.facts))
  have hqm : w.heap.size + 2 < q' := Nat.lt_of_lt_of_le (Blk.lt Q2.R) hqs
  have hqn : q' ∉ [r, b, g, d] := by
    have h1 := HI.out.1
    have h2 := HI.out.2.1
    have h3 := HI.out.2.2.1
    have h4 := HI.out.2.2.2.1
    simp only [List.mem_cons, List.not_mem_nil, or_false, not_or]
    omega
  have Q4 := OneR.stX (n' := n) (c' := c') (o' := true) Q3 HI.out hq' hqm
  have T4 := Turn.stR (W' := (W : Int)) (H' := (H : Int)) (q' := q') (n' := n) (c' := c') (o' := true) T3 (.inr (Nat.le_refl w.heap.size))
  change Code.wp _ _ _ _ (stR w3 w.heap.size (W : Int) (H : Int) q' n c' true)
  generalize (stR w3 w.heap.size (W : Int) (H : Int) q' n c' true) = w4 at Q4 T4 ⊢
  obtain ⟨x0, x1, x2, x3, o0, o1, o2, o3, o4, o5, o6, r0, r1, r2, r3, zx0, zx1, zx2, zx3, z0, z1, z2, z3, lx, lo, lr⟩ := Q4.facts
  go_wp2_with fail
  obtain ⟨fz, tz⟩ := OneR.fin (o' := true) (Q4) (T4) HI.out.1 HI.out.2.1 HI.out.2.2.1 HI.out.2.2.2.1 hqn (by omega) (Nat.le_refl _)
  change bodyPost _ _ _ _ _ ((stR w4 (w.heap.size + 2) (W : Int) (H : Int) q' n c' true))
  generalize ((stR w4 (w.heap.size + 2) (W : Int) (H : Int) q' n c' true)) = we at fz tz ⊢
  have q0 := RB.c0 fz
  have q1 := RB.c1 fz
  have q2 := RB.c2 fz
  have q3 := RB.c3 fz
  exact bodyPost_ret (v := .tuple #[.agg #[.int .i64 (W : Int), .int .i64 (H : Int), .slice (some ⟨q', 0, none⟩) n c', .bool true], .int .i64 (s + 1), .bool true]) (by simp [results, Try.results14, go_sem, q0, q1, q2, q3]) rfl ⟨q', c', rfl, hcs, tz⟩
end Go.Proofs.Ytfgcbhcfekonnaa
