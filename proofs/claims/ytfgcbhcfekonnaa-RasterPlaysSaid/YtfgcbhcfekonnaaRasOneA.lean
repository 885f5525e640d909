/- One call of both: refusals of Set and of the flips. -/
import Derived.Test.YtfgcbhcfekonnaaRasOne1

namespace Go.Proofs.Ytfgcbhcfekonnaa
open Go.RowKit
set_option linter.unusedVariables false
set_option linter.unusedSimpArgs false

set_option maxRecDepth 100000 in
set_option maxHeartbeats 4000000 in
theorem one7_set_no {w : World} {r g b d W H q n c : Nat} {X : Int} {Y : Int} {k p s : Int} {o : Bool} {L : List Qc} {qc : Qc} (D : Dim W H n L) (hI : Ins r g b d q w.heap.size) (hq0 : q < w.heap.size) (A : RasAt w r g b (W : Int) (H : Int) o) (M : o = true → BufAt w b g d (flat L)) (G : LedAt w g (LR k p s)) (Q : QAt w q 0 L) (hnc : n ≤ c) (hno : ¬ IsP (W : Int) (H : Int) o X Y) :
    Calls Try.prog 14 #[.pointer (some ⟨r, 0, none⟩), .agg (refC (W : Int) (H : Int) q n c o), .agg (opR 1 X Y qc), .pointer (some ⟨g, 0, none⟩), .int .i64 s] w fun e w' => e = .returned (.tuple #[.agg (refC (W : Int) (H : Int) q n c o), .int .i64 s, .bool true]) ∧ OneEndR w w' r g b d W H q o L (LR k p s) := by
  obtain ⟨wA, hwA⟩ : ∃ wA, wA = (((w.alloc (.cells #[.int .i64 (W : Int), .int .i64 (H : Int), .slice (some ⟨q, 0, none⟩) n c, .bool o] 34)).alloc (.cells #[.int .i64 1, .int .i64 X, .int .i64 Y, .int .u8 (qc.r.toNat : Int), .int .u8 (qc.g.toNat : Int), .int .u8 (qc.b.toNat : Int), .int .u8 (qc.a.toNat : Int)] 41)).alloc (.cells #[.int .i64 0, .int .i64 0, .slice none 0 0, .bool false] 34)) := ⟨_, rfl⟩
  have HQ : Hid (OneR wA w.heap.size r g b d W H q n c o L 1 X Y qc o L (LR k p s)) := Lib.hid (by
    subst hwA
    exact ⟨((Blk.new _ _ _).alloc _).alloc _, (Blk.new_at _ _ _ (by simp)).alloc _, Blk.new_at _ _ _ (by simp), Q.below' ((((Below.refl _ _).alloc (Nat.le_refl _) _).alloc (by simp) _).alloc (by simp; omega) _), ((Blk.alloc A _).alloc _).alloc _, fun e => ⟨(((M e).blk.alloc _).alloc _).alloc _, (((M e).row.alloc _).alloc _).alloc _⟩, ((Blk.alloc G _).alloc _).alloc _⟩)
  have HT : Hid (Turn [r, b, g, d] w wA) := Lib.hid (by subst hwA; exact (((Turn.refl _ _).alloc _).alloc _).alloc _)
  have HI := Lib.hid hI
  have HD := Lib.hid D
  have ne0 : q ≠ w.heap.size + 2 := by omega
  clear A M G Q hI D
  unfold refC opR
  have HB : Hid (∀ w' : World, RasAt w' r g b (W : Int) (H : Int) o → Calls Try.prog 42 #[.pointer (some ⟨r, 0, none⟩), .int .i64 X, .int .i64 Y, .agg #[.int .u8 (qc.r.toNat : Int), .int .u8 (qc.g.toNat : Int), .int .u8 (qc.b.toNat : Int), .int .u8 (qc.a.toNat : Int)]] w' fun e w2 => e = .returned (.bool false) ∧ Below w'.heap.size w' w2) := Lib.hid (fun w' h => rasSet_no h hno _ _ _ _)
  have HN := Lib.hid hno
  clear hno
  go_enter Try.func14, Try.ntmps14
  go_upto_region 1 with fail
  change Code.wp _ _ _ _ (((w.alloc (.cells #[.int .i64 (W : Int), .int .i64 (H : Int), .slice (some ⟨q, 0, none⟩) n c, .bool o] 34)).alloc (.cells #[.int .i64 1, .int .i64 X, .int .i64 Y, .int .u8 (qc.r.toNat : Int), .int .u8 (qc.g.toNat : Int), .int .u8 (qc.b.toNat : Int), .int .u8 (qc.a.toNat : Int)] 41)).alloc (.cells #[.int .i64 0, .int .i64 0, .slice none 0 0, .bool false] 34))
  rw [← hwA]
  clear hwA
  obtain ⟨x0, x1, x2, x3, o0, o1, o2, o3, o4, o5, o6, r0, r1, r2, r3, zx0, zx1, zx2, zx3, z0, z1, z2, z3, lx, lo, lr⟩ := HQ.out.facts
  go_wp2_with (first
    | (go_at_call 42; refine (HB.out _ HQ.out.A).mono ?_; rintro e w1 ⟨rfl, b1⟩; have Q1 := HQ.out.below b1; have T1 := HT.out.trans (Turn.of_below b1); obtain ⟨x0, x1, x2, x3, o0, o1, o2, o3, o4, o5, o6, r0, r1, r2, r3, zx0, zx1, zx2, zx3, z0, z1, z2, z3, lx, lo, lr⟩ := Q1.facts)
    | (go_at_call 43; refine (refIs_no HN.out _).mono ?_; rintro e w2 ⟨rfl, b2⟩; have Q2 := Q1.below b2; have T2 := T1.trans (Turn.of_below b2); obtain ⟨x0, x1, x2, x3, o0, o1, o2, o3, o4, o5, o6, r0, r1, r2, r3, zx0, zx1, zx2, zx3, z0, z1, z2, z3, lx, lo, lr⟩ := Q2.facts))
  obtain ⟨fz, tz⟩ := OneR.fin (o' := o) (Q2) (T2) HI.out.1 HI.out.2.1 HI.out.2.2.1 HI.out.2.2.2.1 HI.out.2.2.2.2 ne0 (Nat.le_refl _)
  change bodyPost _ _ _ _ _ ((stR w2 (w.heap.size + 2) (W : Int) (H : Int) q n c o))
  generalize ((stR w2 (w.heap.size + 2) (W : Int) (H : Int) q n c o)) = we at fz tz ⊢
  have q0 := RB.c0 fz
  have q1 := RB.c1 fz
  have q2 := RB.c2 fz
  have q3 := RB.c3 fz
  exact bodyPost_ret (v := .tuple #[.agg #[.int .i64 (W : Int), .int .i64 (H : Int), .slice (some ⟨q, 0, none⟩) n c, .bool o], .int .i64 s, .bool true]) (by simp [results, Try.results14, go_sem, q0, q1, q2, q3]) rfl ⟨rfl, tz⟩
set_option maxRecDepth 100000 in
set_option maxHeartbeats 4000000 in
theorem one7_rows_no {w : World} {r g b d W H q n c : Nat} {X : Int} {Y : Int} {k p s : Int} {o : Bool} {L : List Qc} {qc : Qc} (D : Dim W H n L) (hI : Ins r g b d q w.heap.size) (hq0 : q < w.heap.size) (A : RasAt w r g b (W : Int) (H : Int) false) (M : false = true → BufAt w b g d (flat L)) (G : LedAt w g (LR k p s)) (Q : QAt w q 0 L) (hnc : n ≤ c) :
    Calls Try.prog 14 #[.pointer (some ⟨r, 0, none⟩), .agg (refC (W : Int) (H : Int) q n c false), .agg (opR 4 X Y qc), .pointer (some ⟨g, 0, none⟩), .int .i64 s] w fun e w' => e = .returned (.tuple #[.agg (refC (W : Int) (H : Int) q n c false), .int .i64 s, .bool true]) ∧ OneEndR w w' r g b d W H q false L (LR k p s) := by
  obtain ⟨wA, hwA⟩ : ∃ wA, wA = (((w.alloc (.cells #[.int .i64 (W : Int), .int .i64 (H : Int), .slice (some ⟨q, 0, none⟩) n c, .bool false] 34)).alloc (.cells #[.int .i64 4, .int .i64 X, .int .i64 Y, .int .u8 (qc.r.toNat : Int), .int .u8 (qc.g.toNat : Int), .int .u8 (qc.b.toNat : Int), .int .u8 (qc.a.toNat : Int)] 41)).alloc (.cells #[.int .i64 0, .int .i64 0, .slice none 0 0, .bool false] 34)) := ⟨_, rfl⟩
  have HQ : Hid (OneR wA w.heap.size r g b d W H q n c false L 4 X Y qc false L (LR k p s)) := Lib.hid (by
    subst hwA
    exact ⟨((Blk.new _ _ _).alloc _).alloc _, (Blk.new_at _ _ _ (by simp)).alloc _, Blk.new_at _ _ _ (by simp), Q.below' ((((Below.refl _ _).alloc (Nat.le_refl _) _).alloc (by simp) _).alloc (by simp; omega) _), ((Blk.alloc A _).alloc _).alloc _, fun e => ⟨(((M e).blk.alloc _).alloc _).alloc _, (((M e).row.alloc _).alloc _).alloc _⟩, ((Blk.alloc G _).alloc _).alloc _⟩)
  have HT : Hid (Turn [r, b, g, d] w wA) := Lib.hid (by subst hwA; exact (((Turn.refl _ _).alloc _).alloc _).alloc _)
  have HI := Lib.hid hI
  have HD := Lib.hid D
  have ne0 : q ≠ w.heap.size + 2 := by omega
  clear A M G Q hI D
  unfold refC opR
  go_enter Try.func14, Try.ntmps14
  go_upto_region 1 with fail
  change Code.wp _ _ _ _ (((w.alloc (.cells #[.int .i64 (W : Int), .int .i64 (H : Int), .slice (some ⟨q, 0, none⟩) n c, .bool false] 34)).alloc (.cells #[.int .i64 4, .int .i64 X, .int .i64 Y, .int .u8 (qc.r.toNat : Int), .int .u8 (qc.g.toNat : Int), .int .u8 (qc.b.toNat : Int), .int .u8 (qc.a.toNat : Int)] 41)).alloc (.cells #[.int .i64 0, .int .i64 0, .slice none 0 0, .bool false] 34))
  rw [← hwA]
  clear hwA
  obtain ⟨x0, x1, x2, x3, o0, o1, o2, o3, o4, o5, o6, r0, r1, r2, r3, zx0, zx1, zx2, zx3, z0, z1, z2, z3, lx, lo, lr⟩ := HQ.out.facts
  go_wp2_with (first
    | (go_at_call 48; refine (rasFlipRows_no HQ.out.A).mono ?_; rintro e w1 ⟨rfl, b1⟩; have Q1 := HQ.out.below b1; have T1 := HT.out.trans (Turn.of_below b1); obtain ⟨x0, x1, x2, x3, o0, o1, o2, o3, o4, o5, o6, r0, r1, r2, r3, zx0, zx1, zx2, zx3, z0, z1, z2, z3, lx, lo, lr⟩ := Q1.facts))
  obtain ⟨fz, tz⟩ := OneR.fin (o' := false) (Q1) (T1) HI.out.1 HI.out.2.1 HI.out.2.2.1 HI.out.2.2.2.1 HI.out.2.2.2.2 ne0 (Nat.le_refl _)
  change bodyPost _ _ _ _ _ ((stR w1 (w.heap.size + 2) (W : Int) (H : Int) q n c false))
  generalize ((stR w1 (w.heap.size + 2) (W : Int) (H : Int) q n c false)) = we at fz tz ⊢
  have q0 := RB.c0 fz
  have q1 := RB.c1 fz
  have q2 := RB.c2 fz
  have q3 := RB.c3 fz
  exact bodyPost_ret (v := .tuple #[.agg #[.int .i64 (W : Int), .int .i64 (H : Int), .slice (some ⟨q, 0, none⟩) n c, .bool false], .int .i64 s, .bool true]) (by simp [results, Try.results14, go_sem, q0, q1, q2, q3]) rfl ⟨rfl, tz⟩
set_option maxRecDepth 100000 in
set_option maxHeartbeats 4000000 in
theorem one7_cols_no {w : World} {r g b d W H q n c : Nat} {X : Int} {Y : Int} {k p s : Int} {o : Bool} {L : List Qc} {qc : Qc} (D : Dim W H n L) (hI : Ins r g b d q w.heap.size) (hq0 : q < w.heap.size) (A : RasAt w r g b (W : Int) (H : Int) false) (M : false = true → BufAt w b g d (flat L)) (G : LedAt w g (LR k p s)) (Q : QAt w q 0 L) (hnc : n ≤ c) :
    Calls Try.prog 14 #[.pointer (some ⟨r, 0, none⟩), .agg (refC (W : Int) (H : Int) q n c false), .agg (opR 5 X Y qc), .pointer (some ⟨g, 0, none⟩), .int .i64 s] w fun e w' => e = .returned (.tuple #[.agg (refC (W : Int) (H : Int) q n c false), .int .i64 s, .bool true]) ∧ OneEndR w w' r g b d W H q false L (LR k p s) := by
  obtain ⟨wA, hwA⟩ : ∃ wA, wA = (((w.alloc (.cells #[.int .i64 (W : Int), .int .i64 (H : Int), .slice (some ⟨q, 0, none⟩) n c, .bool false] 34)).alloc (.cells #[.int .i64 5, .int .i64 X, .int .i64 Y, .int .u8 (qc.r.toNat : Int), .int .u8 (qc.g.toNat : Int), .int .u8 (qc.b.toNat : Int), .int .u8 (qc.a.toNat : Int)] 41)).alloc (.cells #[.int .i64 0, .int .i64 0, .slice none 0 0, .bool false] 34)) := ⟨_, rfl⟩
  have HQ : Hid (OneR wA w.heap.size r g b d W H q n c false L 5 X Y qc false L (LR k p s)) := Lib.hid (by
    subst hwA
    exact ⟨((Blk.new _ _ _).alloc _).alloc _, (Blk.new_at _ _ _ (by simp)).alloc _, Blk.new_at _ _ _ (by simp), Q.below' ((((Below.refl _ _).alloc (Nat.le_refl _) _).alloc (by simp) _).alloc (by simp; omega) _), ((Blk.alloc A _).alloc _).alloc _, fun e => ⟨(((M e).blk.alloc _).alloc _).alloc _, (((M e).row.alloc _).alloc _).alloc _⟩, ((Blk.alloc G _).alloc _).alloc _⟩)
  have HT : Hid (Turn [r, b, g, d] w wA) := Lib.hid (by subst hwA; exact (((Turn.refl _ _).alloc _).alloc _).alloc _)
  have HI := Lib.hid hI
  have HD := Lib.hid D
  have ne0 : q ≠ w.heap.size + 2 := by omega
  clear A M G Q hI D
  unfold refC opR
  go_enter Try.func14, Try.ntmps14
  go_upto_region 1 with fail
  change Code.wp _ _ _ _ (((w.alloc (.cells #[.int .i64 (W : Int), .int .i64 (H : Int), .slice (some ⟨q, 0, none⟩) n c, .bool false] 34)).alloc (.cells #[.int .i64 5, .int .i64 X, .int .i64 Y, .int .u8 (qc.r.toNat : Int), .int .u8 (qc.g.toNat : Int), .int .u8 (qc.b.toNat : Int), .int .u8 (qc.a.toNat : Int)] 41)).alloc (.cells #[.int .i64 0, .int .i64 0, .slice none 0 0, .bool false] 34))
  rw [← hwA]
  clear hwA
  obtain ⟨x0, x1, x2, x3, o0, o1, o2, o3, o4, o5, o6, r0, r1, r2, r3, zx0, zx1, zx2, zx3, z0, z1, z2, z3, lx, lo, lr⟩ := HQ.out.facts
  go_wp2_with (first
    | (go_at_call 50; refine (rasFlipColumns_no HQ.out.A).mono ?_; rintro e w1 ⟨rfl, b1⟩; have Q1 := HQ.out.below b1; have T1 := HT.out.trans (Turn.of_below b1); obtain ⟨x0, x1, x2, x3, o0, o1, o2, o3, o4, o5, o6, r0, r1, r2, r3, zx0, zx1, zx2, zx3, z0, z1, z2, z3, lx, lo, lr⟩ := Q1.facts))
  obtain ⟨fz, tz⟩ := OneR.fin (o' := false) (Q1) (T1) HI.out.1 HI.out.2.1 HI.out.2.2.1 HI.out.2.2.2.1 HI.out.2.2.2.2 ne0 (Nat.le_refl _)
  change bodyPost _ _ _ _ _ ((stR w1 (w.heap.size + 2) (W : Int) (H : Int) q n c false))
  generalize ((stR w1 (w.heap.size + 2) (W : Int) (H : Int) q n c false)) = we at fz tz ⊢
  have q0 := RB.c0 fz
  have q1 := RB.c1 fz
  have q2 := RB.c2 fz
  have q3 := RB.c3 fz
  exact bodyPost_ret (v := .tuple #[.agg #[.int .i64 (W : Int), .int .i64 (H : Int), .slice (some ⟨q, 0, none⟩) n c, .bool false], .int .i64 s, .bool true]) (by simp [results, Try.results14, go_sem, q0, q1, q2, q3]) rfl ⟨rfl, tz⟩
set_option maxRecDepth 100000 in
set_option maxHeartbeats 4000000 in
theorem one7_else {w : World} {r g b d W H q n c : Nat} {X : Int} {Y : Int} {k p s : Int} {o : Bool} {L : List Qc} {qc : Qc} (D : Dim W H n L) (hI : Ins r g b d q w.heap.size) (hq0 : q < w.heap.size) (A : RasAt w r g b (W : Int) (H : Int) o) (M : o = true → BufAt w b g d (flat L)) (G : LedAt w g (LR k p s)) (Q : QAt w q 0 L) (hnc : n ≤ c) {K : Int} (k1 : K ≠ 1) (k2 : K ≠ 2) (k3 : K ≠ 3) (k4 : K ≠ 4) (k5 : K ≠ 5) (k6 : K ≠ 6) (k7 : K ≠ 7) :
    Calls Try.prog 14 #[.pointer (some ⟨r, 0, none⟩), .agg (refC (W : Int) (H : Int) q n c o), .agg (opR K X Y qc), .pointer (some ⟨g, 0, none⟩), .int .i64 s] w fun e w' => e = .returned (.tuple #[.agg (refC (W : Int) (H : Int) q n c o), .int .i64 s, .bool true]) ∧ OneEndR w w' r g b d W H q o L (LR k p s) := by
  obtain ⟨wA, hwA⟩ : ∃ wA, wA = (((w.alloc (.cells #[.int .i64 (W : Int), .int .i64 (H : Int), .slice (some ⟨q, 0, none⟩) n c, .bool o] 34)).alloc (.cells #[.int .i64 K, .int .i64 X, .int .i64 Y, .int .u8 (qc.r.toNat : Int), .int .u8 (qc.g.toNat : Int), .int .u8 (qc.b.toNat : Int), .int .u8 (qc.a.toNat : Int)] 41)).alloc (.cells #[.int .i64 0, .int .i64 0, .slice none 0 0, .bool false] 34)) := ⟨_, rfl⟩
  have HQ : Hid (OneR wA w.heap.size r g b d W H q n c o L K X Y qc o L (LR k p s)) := Lib.hid (by
    subst hwA
    exact ⟨((Blk.new _ _ _).alloc _).alloc _, (Blk.new_at _ _ _ (by simp)).alloc _, Blk.new_at _ _ _ (by simp), Q.below' ((((Below.refl _ _).alloc (Nat.le_refl _) _).alloc (by simp) _).alloc (by simp; omega) _), ((Blk.alloc A _).alloc _).alloc _, fun e => ⟨(((M e).blk.alloc _).alloc _).alloc _, (((M e).row.alloc _).alloc _).alloc _⟩, ((Blk.alloc G _).alloc _).alloc _⟩)
  have HT : Hid (Turn [r, b, g, d] w wA) := Lib.hid (by subst hwA; exact (((Turn.refl _ _).alloc _).alloc _).alloc _)
  have HI := Lib.hid hI
  have HD := Lib.hid D
  have ne0 : q ≠ w.heap.size + 2 := by omega
  clear A M G Q hI D
  unfold refC opR
  go_enter Try.func14, Try.ntmps14
  go_upto_region 1 with fail
  change Code.wp _ _ _ _ (((w.alloc (.cells #[.int .i64 (W : Int), .int .i64 (H : Int), .slice (some ⟨q, 0, none⟩) n c, .bool o] 34)).alloc (.cells #[.int .i64 K, .int .i64 X, .int .i64 Y, .int .u8 (qc.r.toNat : Int), .int .u8 (qc.g.toNat : Int), .int .u8 (qc.b.toNat : Int), .int .u8 (qc.a.toNat : Int)] 41)).alloc (.cells #[.int .i64 0, .int .i64 0, .slice none 0 0, .bool false] 34))
  rw [← hwA]
  clear hwA
  obtain ⟨x0, x1, x2, x3, o0, o1, o2, o3, o4, o5, o6, r0, r1, r2, r3, zx0, zx1, zx2, zx3, z0, z1, z2, z3, lx, lo, lr⟩ := HQ.out.facts
  go_wp2_with fail
  obtain ⟨fz, tz⟩ := OneR.fin (o' := o) (HQ.out) (HT.out) HI.out.1 HI.out.2.1 HI.out.2.2.1 HI.out.2.2.2.1 HI.out.2.2.2.2 ne0 (Nat.le_refl _)
  change bodyPost _ _ _ _ _ ((stR wA (w.heap.size + 2) (W : Int) (H : Int) q n c o))
  generalize ((stR wA (w.heap.size + 2) (W : Int) (H : Int) q n c o)) = we at fz tz ⊢
  have q0 := RB.c0 fz
  have q1 := RB.c1 fz
  have q2 := RB.c2 fz
  have q3 := RB.c3 fz
  exact bodyPost_ret (v := .tuple #[.agg #[.int .i64 (W : Int), .int .i64 (H : Int), .slice (some ⟨q, 0, none⟩) n c, .bool o], .int .i64 s, .bool true]) (by simp [results, Try.results14, go_sem, q0, q1, q2, q3]) rfl ⟨rfl, tz⟩
end Go.Proofs.Ytfgcbhcfekonnaa
