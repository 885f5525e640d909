/- A pixel of TGA's that stands next. -/
import Derived.Test.YtlehkgkomjojmaaGreatSq
import Derived.Test.YtlehkgkomjojmaaGreatGTgaG
import Derived.Deep.RegionHeld3
import Derived.Laws.EntriesVeiled
namespace Go.Proofs.YtlehkgkomjojmaaGreat
open Go.RowKit
set_option linter.unusedVariables false
set_option linter.unusedSimpArgs false

theorem Blk.st4 {w : World} {g n : Nat} {t : TypeId} {cs : Array Value} {a b c d : Int} (h : Blk w g t cs) (hb : g ≠ n) : Blk (st4 w n a b c d) g t cs :=
  Blk.far (Blk.far (Blk.far (Blk.far h (p := ⟨n, 0, none⟩) hb _) (p := ⟨n, 1, none⟩) hb _) (p := ⟨n, 2, none⟩) hb _) (p := ⟨n, 3, none⟩) hb _
theorem Turn.st4 {S : List Nat} {w0 w : World} {n : Nat} {a b c d : Int} (h : Turn S w0 w) (hb : n ∈ S ∨ w0.heap.size ≤ n) : Turn S w0 (st4 w n a b c d) := (((h.set_ 0 _ hb).set_ 1 _ hb).set_ 2 _ hb).set_ 3 _ hb
/-- the ways of a pixel: nothing is read; it is wrong; it is told -/
def TPixPost (w w' : World) (p g : Nat) (s : ByteArray) (h : TgaHd) (M : List Qc) (a : Nat) (y : Led) (e : Ending) : Prop :=
  ∃ y', LedAt w' g y' ∧ y'.Ok ∧ y'.bytes = y.bytes ∧ Turn [p, g] w w' ∧
    ((∃ kk aa, e = .returned (.tuple #[Qc.v ⟨0, 0, 0, 0⟩, tFlt kk aa]) ∧ SrcAt w' p g s 0 s.size a ∧ NoRead y' a s.size kk aa ∧ NoRun y y' a s.size (a + h.size ≤ s.size) kk aa) ∨
     (e = .returned (.tuple #[Qc.v ⟨0, 0, 0, 0⟩, tFlt 2 a]) ∧ SrcAt w' p g s 0 s.size (a + h.size) ∧ y'.reason = 0 ∧ a + h.size ≤ s.size ∧ y.work 1 = (y', true) ∧ tgaPixel s h M a = .inl (2, a)) ∨
     (∃ q, e = .returned (.tuple #[q.v, tFlt0]) ∧ SrcAt w' p g s 0 s.size (a + h.size) ∧ y'.reason = 0 ∧ a + h.size ≤ s.size ∧ y.work 1 = (y', true) ∧ tgaPixel s h M a = .inr q))
set_option maxRecDepth 100000 in
set_option maxHeartbeats 4000000 in
theorem tgaPixel_col {w : World} {p g a : Nat} {s : ByteArray} {h : TgaHd} {M : List Qc} {y : Led} {lv : Value} (hc : TgaCol h.depth) (h8 : h.depth ≠ 8) (hsm : s.size ≤ 1099511627776) (ha : a ≤ s.size) (S0 : SrcAt w p g s 0 s.size a) (L0 : LedAt w g y) (ok : y.Ok) (hr : y.reason = 0) :
    Calls Tryz.prog 198 #[.pointer (some ⟨p, 0, none⟩), tHdV h, lv] w fun e w' => TPixPost w w' p g s h M a y e := by
  have S1 : SrcAt (((w.alloc (.cells #[.int .i64 (h.name : Int), .bool h.map, .int .i64 (h.typ : Int), .int .i64 (h.first : Int), .int .i64 (h.count : Int), .int .i64 (h.entry : Int), .int .i64 (h.W : Int), .int .i64 (h.H : Int), .int .i64 (h.depth : Int), .int .i64 (h.alpha : Int), .bool h.left, .bool h.top] 121)).alloc (.cells #[.int .u8 0, .int .u8 0, .int .u8 0, .int .u8 0] 68)).alloc (.cells #[.int .i64 0, .int .i64 0, .int .i64 0] 34)) p g s 0 s.size a := Blk.alloc (Blk.alloc (Blk.alloc S0 _) _) _
  have L1 : LedAt (((w.alloc (.cells #[.int .i64 (h.name : Int), .bool h.map, .int .i64 (h.typ : Int), .int .i64 (h.first : Int), .int .i64 (h.count : Int), .int .i64 (h.entry : Int), .int .i64 (h.W : Int), .int .i64 (h.H : Int), .int .i64 (h.depth : Int), .int .i64 (h.alpha : Int), .bool h.left, .bool h.top] 121)).alloc (.cells #[.int .u8 0, .int .u8 0, .int .u8 0, .int .u8 0] 68)).alloc (.cells #[.int .i64 0, .int .i64 0, .int .i64 0] 34)) g y := Blk.alloc (Blk.alloc (Blk.alloc L0 _) _) _
  have T1 : Turn [p, g] w (((w.alloc (.cells #[.int .i64 (h.name : Int), .bool h.map, .int .i64 (h.typ : Int), .int .i64 (h.first : Int), .int .i64 (h.count : Int), .int .i64 (h.entry : Int), .int .i64 (h.W : Int), .int .i64 (h.H : Int), .int .i64 (h.depth : Int), .int .i64 (h.alpha : Int), .bool h.left, .bool h.top] 121)).alloc (.cells #[.int .u8 0, .int .u8 0, .int .u8 0, .int .u8 0] 68)).alloc (.cells #[.int .i64 0, .int .i64 0, .int .i64 0] 34)) := (((Turn.refl _ _).alloc _).alloc _).alloc _
  have H1 : TH (((w.alloc (.cells #[.int .i64 (h.name : Int), .bool h.map, .int .i64 (h.typ : Int), .int .i64 (h.first : Int), .int .i64 (h.count : Int), .int .i64 (h.entry : Int), .int .i64 (h.W : Int), .int .i64 (h.H : Int), .int .i64 (h.depth : Int), .int .i64 (h.alpha : Int), .bool h.left, .bool h.top] 121)).alloc (.cells #[.int .u8 0, .int .u8 0, .int .u8 0, .int .u8 0] 68)).alloc (.cells #[.int .i64 0, .int .i64 0, .int .i64 0] 34)) w.heap.size h := Blk.alloc (Blk.alloc (Blk.new _ _ _) _) _
  have C1 : Q0 (((w.alloc (.cells #[.int .i64 (h.name : Int), .bool h.map, .int .i64 (h.typ : Int), .int .i64 (h.first : Int), .int .i64 (h.count : Int), .int .i64 (h.entry : Int), .int .i64 (h.W : Int), .int .i64 (h.H : Int), .int .i64 (h.depth : Int), .int .i64 (h.alpha : Int), .bool h.left, .bool h.top] 121)).alloc (.cells #[.int .u8 0, .int .u8 0, .int .u8 0, .int .u8 0] 68)).alloc (.cells #[.int .i64 0, .int .i64 0, .int .i64 0] 34)) (w.heap.size + 1) := Blk.alloc (Blk.new_at _ _ _ (by simp)) _
  have F1 : FB (((w.alloc (.cells #[.int .i64 (h.name : Int), .bool h.map, .int .i64 (h.typ : Int), .int .i64 (h.first : Int), .int .i64 (h.count : Int), .int .i64 (h.entry : Int), .int .i64 (h.W : Int), .int .i64 (h.H : Int), .int .i64 (h.depth : Int), .int .i64 (h.alpha : Int), .bool h.left, .bool h.top] 121)).alloc (.cells #[.int .u8 0, .int .u8 0, .int .u8 0, .int .u8 0] 68)).alloc (.cells #[.int .i64 0, .int .i64 0, .int .i64 0] 34)) (w.heap.size + 1 + 1) 0 0 0 := Blk.new_at _ _ _ (by simp)
  have hlp := Blk.lt S0
  have hlg := Blk.lt L0
  have nh : w.heap.size ∉ [p, g] := by simp; omega
  have nc : w.heap.size + 1 ∉ [p, g] := by simp; omega
  have nf : w.heap.size + 1 + 1 ∉ [p, g] := by simp; omega
  have k1 : w.heap.size + 1 ≠ w.heap.size + 1 + 1 := by omega
  have k2 : w.heap.size + 1 + 1 ≠ w.heap.size + 1 := by omega
  have np1 : p ≠ w.heap.size + 1 := by omega
  have np2 : p ≠ w.heap.size + 1 + 1 := by omega
  have ng1 : g ≠ w.heap.size + 1 := by omega
  have ng2 : g ≠ w.heap.size + 1 + 1 := by omega
  obtain ⟨z, hz⟩ : ∃ z, h.size = z := ⟨_, rfl⟩
  have hzI : ((h.depth : Int) + 7) / 8 = (z : Int) := by rw [← hz]; unfold TgaHd.size; omega
  have hzT : ((h.depth : Int) + 7).tdiv 8 = (z : Int) := by rw [Int.tdiv_eq_ediv_of_nonneg (by omega)]; exact hzI
  have HTK := Lib.hid (srcTake_ways z S1 (srcOkT hsm ha) L1 ok hr)
  have HT := Lib.hid T1
  have HF := Lib.hid F1
  have HH := Lib.hid H1
  have HC := Lib.hid C1
  have HS := Lib.hid S1
  have HY := Lib.hid (And.intro ok (And.intro hr (And.intro hsm ha)))
  have HZ := Lib.hid hz
  have hfl : w.heap.size ≤ w.heap.size + 1 + 1 := by omega
  have hcl : w.heap.size ≤ w.heap.size + 1 := by omega
  have hzs : z = tgaEntry h.depth := by rw [← hz]; unfold TgaHd.size; rcases hc with e | e | e | e <;> rw [e] <;> rfl
  have hdB : (h.depth : Int) ≤ 32 := by rcases hc with e | e | e | e <;> omega
  have h8I : ¬ (h.depth : Int) = 8 := by omega
  have h8b : ((h.depth : Int) != 8) = true := bne_iff_ne.2 h8I
  have HZS := Lib.hid hzs
  have HCO := Lib.hid hc
  have H8 := Lib.hid h8
  obtain ⟨q, hq⟩ : ∃ q, tgaQ s h a = q := ⟨_, rfl⟩
  have HQ := Lib.hid hq
  clear hzs hc h8 hq
  clear S1 L1 T1 F1 H1 C1 S0 L0 ok hr hsm ha hz
  unfold tHdV
  go_enter Tryz.func198, Tryz.ntmps198
  go_upto_region 7 with (first
    | (go_at_call 171; refine (tgaColorC (q := q) HCO.out (by rw [← HZS.out, extract_size s a z hle]; exact Nat.le_refl _) (by rw [extract_size s a z hle]; omega) (by have h1 := tgaQb_of (s := s) (h := h) (a := a) HCO.out (by rw [HZ.out]; exact hle); rw [HZ.out, HQ.out] at h1; exact h1) _).mono ?_; unfold Qc.v; rintro e w4 ⟨rfl, b4⟩; have C4 : Q0 w4 (w.heap.size + 1) := Blk.below C2 b4 (Blk.lt C2); have F4 := FB.below F2 b4; have l4 := Blk.below l2 b4 (Blk.lt l2); have s4 := Blk.below s2 b4 (Blk.lt s2); have T4 := T2.trans (Turn.of_below (S := [p, g]) b4); clear f0 f1 f2' z0 z1 z2 fl q0 q1 q2 q3 x0 x1 x2 x3 ql c0 c1 c2 c3 c4 c5 c6 c7 c8 c9 c10 c11 hlb)
    | (go_at_call 43; refine (srcFault_is 2 s2 l2 nr).mono ?_; rintro e w3 ⟨rfl, b3⟩; have l3 := Blk.below l2 b3 (Blk.lt l2); have s3 := Blk.below s2 b3 (Blk.lt s2); have C3 : Q0 w3 (w.heap.size + 1) := Blk.below C2 b3 (Blk.lt C2); have F3 := FB.below F2 b3; have T3 := T2.trans (Turn.of_below (S := [p, g]) b3); clear f0 f1 f2' z0 z1 z2 fl q0 q1 q2 q3 x0 x1 x2 x3 ql; obtain ⟨q0, q1, q2, q3, x0, x1, x2, x3, ql⟩ := C3.all; obtain ⟨f0, f1, f2', z0, z1, z2, fl⟩ := FB.all F3)
    | (go_at_call 82; refine HTK.out.mono ?_; rintro e w2 ⟨y2, l2, ok2, b2, t2, hor⟩; have H2 : TH w2 w.heap.size h := Blk.turn HH.out t2 nh; have C2 : Q0 w2 (w.heap.size + 1) := Blk.turn HC.out t2 nc; have F2 := FB.turn HF.out t2 nf; have T2 := HT.out.trans t2; obtain ⟨c0, c1, c2, c3, c4, c5, c6, c7, c8, c9, c10, c11, hlb⟩ := TH.all H2; obtain ⟨q0, q1, q2, q3, x0, x1, x2, x3, ql⟩ := C2.all; obtain ⟨f0, f1, f2', z0, z1, z2, fl⟩ := FB.all F2; rcases hor with ⟨kk, aa, rfl, s2, nr, nrun⟩ | ⟨rfl, s2, yr2, hle, hw2⟩)
    | (go_at_call 81; refine (srcAt_at HS.out).mono ?_; rintro e w9 ⟨rfl, rfl⟩))
  · exact bodyPost_ret (v := .tuple #[Qc.v ⟨0, 0, 0, 0⟩, tFlt kk aa]) (by simp [results, Tryz.results198, go_sem, q0, q1, q2, q3, f0, f1, f2', k1, k2, tFlt, Qc.v]) rfl ⟨y2, Blk.st3 (Blk.st4 l3 ng1) ng2, ok2, b2, Turn.st3 (Turn.st4 T3 (.inr hcl)) (.inr hfl), .inl ⟨kk, aa, rfl, Blk.st3 (Blk.st4 s3 np1) np2, nr, by rw [HZ.out]; exact nrun⟩⟩
  · have C5 : Q0 (w4.alloc (.cells #[.int .u8 (q.r.toNat : Int), .int .u8 (q.g.toNat : Int), .int .u8 (q.b.toNat : Int), .int .u8 (q.a.toNat : Int)] 68)) (w.heap.size + 1) := Blk.alloc C4 _
    have F5 : FB (w4.alloc (.cells #[.int .u8 (q.r.toNat : Int), .int .u8 (q.g.toNat : Int), .int .u8 (q.b.toNat : Int), .int .u8 (q.a.toNat : Int)] 68)) (w.heap.size + 1 + 1) 0 0 0 := Blk.alloc F4 _
    have D5 : Blk (w4.alloc (.cells #[.int .u8 (q.r.toNat : Int), .int .u8 (q.g.toNat : Int), .int .u8 (q.b.toNat : Int), .int .u8 (q.a.toNat : Int)] 68)) w4.heap.size 68 #[.int .u8 (q.r.toNat : Int), .int .u8 (q.g.toNat : Int), .int .u8 (q.b.toNat : Int), .int .u8 (q.a.toNat : Int)] := Blk.new _ _ _
    have l5 : LedAt (w4.alloc (.cells #[.int .u8 (q.r.toNat : Int), .int .u8 (q.g.toNat : Int), .int .u8 (q.b.toNat : Int), .int .u8 (q.a.toNat : Int)] 68)) g y2 := Blk.alloc l4 _
    have s5 : SrcAt (w4.alloc (.cells #[.int .u8 (q.r.toNat : Int), .int .u8 (q.g.toNat : Int), .int .u8 (q.b.toNat : Int), .int .u8 (q.a.toNat : Int)] 68)) p g s 0 s.size (a + z) := Blk.alloc s4 _
    have T5 := T4.alloc (.cells #[.int .u8 (q.r.toNat : Int), .int .u8 (q.g.toNat : Int), .int .u8 (q.b.toNat : Int), .int .u8 (q.a.toNat : Int)] 68)
    generalize w4.alloc (.cells #[.int .u8 (q.r.toNat : Int), .int .u8 (q.g.toNat : Int), .int .u8 (q.b.toNat : Int), .int .u8 (q.a.toNat : Int)] 68) = w5 at C5 F5 D5 l5 s5 T5 ⊢
    have hq1 : w4.heap.size ≠ w.heap.size + 1 := by have := Blk.lt C4; omega
    have hq2 : w4.heap.size ≠ w.heap.size + 1 + 1 := by have := Blk.lt F4; omega
    generalize w4.heap.size = q8 at D5 hq1 hq2 ⊢
    obtain ⟨q0, q1, q2, q3, x0, x1, x2, x3, ql⟩ := C5.all
    obtain ⟨f0, f1, f2', z0, z1, z2, fl⟩ := FB.all F5
    have d0 := Blk.cell D5 0
    have d1 := Blk.cell D5 1
    have d2 := Blk.cell D5 2
    have d3 := Blk.cell D5 3
    have dl := Blk.lt D5
    have hq1' := hq1.symm
    have hq2' := hq2.symm
    go_wp2_with fail
    exact bodyPost_ret (v := .tuple #[q.v, tFlt0]) (by simp [results, Tryz.results198, go_sem, q0, q1, q2, q3, f0, f1, f2', k1, k2, tFlt0, Qc.v]) rfl ⟨y2, Blk.st3 (Blk.st4 l5 ng1) ng2, ok2, b2, Turn.st3 (Turn.st4 T5 (.inr hcl)) (.inr hfl), .inr (.inr ⟨q, rfl, by rw [HZ.out]; exact Blk.st3 (Blk.st4 s5 np1) np2, yr2, by rw [HZ.out]; exact hle, hw2, by unfold tgaPixel; rw [if_pos H8.out, HQ.out]⟩)⟩
set_option maxRecDepth 100000 in
set_option maxHeartbeats 4000000 in
theorem tgaPixel_gray {w : World} {p g a : Nat} {s : ByteArray} {h : TgaHd} {M : List Qc} {y : Led} {lv : Value} (h8 : h.depth = 8) (hnm : ¬ h.mapped) (hsm : s.size ≤ 1099511627776) (ha : a ≤ s.size) (S0 : SrcAt w p g s 0 s.size a) (L0 : LedAt w g y) (ok : y.Ok) (hr : y.reason = 0) :
    Calls Tryz.prog 198 #[.pointer (some ⟨p, 0, none⟩), tHdV h, lv] w fun e w' => TPixPost w w' p g s h M a y e := by
  have H8 := Lib.hid h8
  clear h8
  have S1 : SrcAt (((w.alloc (.cells #[.int .i64 (h.name : Int), .bool h.map, .int .i64 (h.typ : Int), .int .i64 (h.first : Int), .int .i64 (h.count : Int), .int .i64 (h.entry : Int), .int .i64 (h.W : Int), .int .i64 (h.H : Int), .int .i64 (h.depth : Int), .int .i64 (h.alpha : Int), .bool h.left, .bool h.top] 121)).alloc (.cells #[.int .u8 0, .int .u8 0, .int .u8 0, .int .u8 0] 68)).alloc (.cells #[.int .i64 0, .int .i64 0, .int .i64 0] 34)) p g s 0 s.size a := Blk.alloc (Blk.alloc (Blk.alloc S0 _) _) _
  have L1 : LedAt (((w.alloc (.cells #[.int .i64 (h.name : Int), .bool h.map, .int .i64 (h.typ : Int), .int .i64 (h.first : Int), .int .i64 (h.count : Int), .int .i64 (h.entry : Int), .int .i64 (h.W : Int), .int .i64 (h.H : Int), .int .i64 (h.depth : Int), .int .i64 (h.alpha : Int), .bool h.left, .bool h.top] 121)).alloc (.cells #[.int .u8 0, .int .u8 0, .int .u8 0, .int .u8 0] 68)).alloc (.cells #[.int .i64 0, .int .i64 0, .int .i64 0] 34)) g y := Blk.alloc (Blk.alloc (Blk.alloc L0 _) _) _
  have T1 : Turn [p, g] w (((w.alloc (.cells #[.int .i64 (h.name : Int), .bool h.map, .int .i64 (h.typ : Int), .int .i64 (h.first : Int), .int .i64 (h.count : Int), .int .i64 (h.entry : Int), .int .i64 (h.W : Int), .int .i64 (h.H : Int), .int .i64 (h.depth : Int), .int .i64 (h.alpha : Int), .bool h.left, .bool h.top] 121)).alloc (.cells #[.int .u8 0, .int .u8 0, .int .u8 0, .int .u8 0] 68)).alloc (.cells #[.int .i64 0, .int .i64 0, .int .i64 0] 34)) := (((Turn.refl _ _).alloc _).alloc _).alloc _
  have H1 : TH (((w.alloc (.cells #[.int .i64 (h.name : Int), .bool h.map, .int .i64 (h.typ : Int), .int .i64 (h.first : Int), .int .i64 (h.count : Int), .int .i64 (h.entry : Int), .int .i64 (h.W : Int), .int .i64 (h.H : Int), .int .i64 (h.depth : Int), .int .i64 (h.alpha : Int), .bool h.left, .bool h.top] 121)).alloc (.cells #[.int .u8 0, .int .u8 0, .int .u8 0, .int .u8 0] 68)).alloc (.cells #[.int .i64 0, .int .i64 0, .int .i64 0] 34)) w.heap.size h := Blk.alloc (Blk.alloc (Blk.new _ _ _) _) _
  have C1 : Q0 (((w.alloc (.cells #[.int .i64 (h.name : Int), .bool h.map, .int .i64 (h.typ : Int), .int .i64 (h.first : Int), .int .i64 (h.count : Int), .int .i64 (h.entry : Int), .int .i64 (h.W : Int), .int .i64 (h.H : Int), .int .i64 (h.depth : Int), .int .i64 (h.alpha : Int), .bool h.left, .bool h.top] 121)).alloc (.cells #[.int .u8 0, .int .u8 0, .int .u8 0, .int .u8 0] 68)).alloc (.cells #[.int .i64 0, .int .i64 0, .int .i64 0] 34)) (w.heap.size + 1) := Blk.alloc (Blk.new_at _ _ _ (by simp)) _
  have F1 : FB (((w.alloc (.cells #[.int .i64 (h.name : Int), .bool h.map, .int .i64 (h.typ : Int), .int .i64 (h.first : Int), .int .i64 (h.count : Int), .int .i64 (h.entry : Int), .int .i64 (h.W : Int), .int .i64 (h.H : Int), .int .i64 (h.depth : Int), .int .i64 (h.alpha : Int), .bool h.left, .bool h.top] 121)).alloc (.cells #[.int .u8 0, .int .u8 0, .int .u8 0, .int .u8 0] 68)).alloc (.cells #[.int .i64 0, .int .i64 0, .int .i64 0] 34)) (w.heap.size + 1 + 1) 0 0 0 := Blk.new_at _ _ _ (by simp)
  have hlp := Blk.lt S0
  have hlg := Blk.lt L0
  have nh : w.heap.size ∉ [p, g] := by simp; omega
  have nc : w.heap.size + 1 ∉ [p, g] := by simp; omega
  have nf : w.heap.size + 1 + 1 ∉ [p, g] := by simp; omega
  have k1 : w.heap.size + 1 ≠ w.heap.size + 1 + 1 := by omega
  have k2 : w.heap.size + 1 + 1 ≠ w.heap.size + 1 := by omega
  have np1 : p ≠ w.heap.size + 1 := by omega
  have np2 : p ≠ w.heap.size + 1 + 1 := by omega
  have ng1 : g ≠ w.heap.size + 1 := by omega
  have ng2 : g ≠ w.heap.size + 1 + 1 := by omega
  unfold tHdV
  go_enter Tryz.func198, Tryz.ntmps198
  go_upto_region 1 with fail
  generalize (((w.alloc (.cells #[.int .i64 (h.name : Int), .bool h.map, .int .i64 (h.typ : Int), .int .i64 (h.first : Int), .int .i64 (h.count : Int), .int .i64 (h.entry : Int), .int .i64 (h.W : Int), .int .i64 (h.H : Int), .int .i64 (h.depth : Int), .int .i64 (h.alpha : Int), .bool h.left, .bool h.top] 121)).alloc (.cells #[.int .u8 0, .int .u8 0, .int .u8 0, .int .u8 0] 68)).alloc (.cells #[.int .i64 0, .int .i64 0, .int .i64 0] 34)) = w1 at S1 L1 T1 H1 C1 F1 ⊢
  have hz : h.size = 1 := by unfold TgaHd.size; rw [H8.out]
  have hd : (h.depth : Int) = 8 := by rw [H8.out]; rfl
  have HD := Lib.hid hd
  have e8 : w1.cell? ⟨w.heap.size, 8, none⟩ = some (.int .i64 (h.depth : Int)) := Blk.cell H1 8
  have HTK := Lib.hid (srcTake_ways 1 S1 (srcOkT hsm ha) L1 ok hr)
  have HT := Lib.hid T1
  have HF := Lib.hid F1
  have HH := Lib.hid H1
  have HC := Lib.hid C1
  have HS := Lib.hid S1
  have HY := Lib.hid (And.intro ok (And.intro hr (And.intro hsm ha)))
  have HZ := Lib.hid hz
  have hfl : w.heap.size ≤ w.heap.size + 1 + 1 := by omega
  have hcl : w.heap.size ≤ w.heap.size + 1 := by omega
  have HMP := Lib.hid (fun w => tgaMappedC h w)
  have hmd : decide (h.typ = 1 ∨ h.typ = 9) = false := decide_eq_false (fun e => hnm ((tgaMapped_iff h).1 e))
  rw [hmd] at HMP
  have HNM := Lib.hid hnm
  clear hmd hnm
  clear S1 L1 T1 F1 H1 C1 S0 L0 ok hr hsm ha hz
  go_upto_region 9 with (first
    | (go_at_call 175; have hM0 := HMP.out; unfold tHdV at hM0; rw [HD.out] at hM0; refine (hM0 _).mono ?_; clear hM0; rintro e w5 ⟨rfl, b5⟩; have H5 := Blk.below H2 b5 (Blk.lt H2); have C5 : Q0 w5 (w.heap.size + 1) := Blk.below C2 b5 (Blk.lt C2); have F5 := FB.below F2 b5; have T5 := T2.trans (Turn.of_below (S := [p, g]) b5); have s5 := Blk.below s2 b5 (Blk.lt s2); have l5 := Blk.below l2 b5 (Blk.lt l2); clear f0 f1 f2' z0 z1 z2 fl q0 q1 q2 q3 x0 x1 x2 x3 ql c0 c1 c2 c3 c4 c5 c6 c7 c8 c9 c10 c11 hlb)
    | (go_at_call 43; refine (srcFault_is 2 s2 l2 nr).mono ?_; rintro e w3 ⟨rfl, b3⟩; have l3 := Blk.below l2 b3 (Blk.lt l2); have s3 := Blk.below s2 b3 (Blk.lt s2); have C3 : Q0 w3 (w.heap.size + 1) := Blk.below C2 b3 (Blk.lt C2); have F3 := FB.below F2 b3; have T3 := T2.trans (Turn.of_below (S := [p, g]) b3); clear f0 f1 f2' z0 z1 z2 fl q0 q1 q2 q3 x0 x1 x2 x3 ql; obtain ⟨q0, q1, q2, q3, x0, x1, x2, x3, ql⟩ := C3.all; obtain ⟨f0, f1, f2', z0, z1, z2, fl⟩ := FB.all F3)
    | (go_at_call 82; refine HTK.out.mono ?_; rintro e w2 ⟨y2, l2, ok2, b2, t2, hor⟩; have H2 : TH w2 w.heap.size h := Blk.turn HH.out t2 nh; have C2 : Q0 w2 (w.heap.size + 1) := Blk.turn HC.out t2 nc; have F2 := FB.turn HF.out t2 nf; have T2 := HT.out.trans t2; obtain ⟨c0, c1, c2, c3, c4, c5, c6, c7, c8, c9, c10, c11, hlb⟩ := TH.all H2; obtain ⟨q0, q1, q2, q3, x0, x1, x2, x3, ql⟩ := C2.all; obtain ⟨f0, f1, f2', z0, z1, z2, fl⟩ := FB.all F2; rcases hor with ⟨kk, aa, rfl, s2, nr, nrun⟩ | ⟨rfl, s2, yr2, hle, hw2⟩)
    | (go_at_call 81; refine (srcAt_at HS.out).mono ?_; rintro e w9 ⟨rfl, rfl⟩))
  · exact bodyPost_ret (v := .tuple #[Qc.v ⟨0, 0, 0, 0⟩, tFlt kk aa]) (by simp [results, Tryz.results198, go_sem, q0, q1, q2, q3, f0, f1, f2', k1, k2, tFlt, Qc.v]) rfl ⟨y2, Blk.st3 (Blk.st4 l3 ng1) ng2, ok2, b2, Turn.st3 (Turn.st4 T3 (.inr hcl)) (.inr hfl), .inl ⟨kk, aa, rfl, Blk.st3 (Blk.st4 s3 np1) np2, nr, by rw [HZ.out]; exact nrun⟩⟩
  · have hbs : (s.extract a (a + 1)).size = 1 := extract_size s a 1 hle
    have e0 : ∀ hn : 0 < (s.extract a (a + 1)).size, ((s.extract a (a + 1))[0]'hn).toNat = bat s a := by
      intro hn
      rw [← bat_eq hn, bat_extract s a 1 0 (by decide), Nat.add_zero]
    generalize s.extract a (a + 1) = bb at hbs e0 ⊢
    have i0 : (0 : Int) < (bb.size : Int) := by omega
    have n0 : 0 < bb.size := by omega
    obtain ⟨v, hv⟩ : ∃ v, bat s a = v := ⟨_, rfl⟩
    have hvb := bat_lt s a
    rw [hv] at hvb
    have g0 := e0 n0
    rw [hv] at g0
    have HV := Lib.hid hv
    clear hv e0
    obtain ⟨q0, q1, q2, q3, x0, x1, x2, x3, ql⟩ := C5.all
    obtain ⟨f0, f1, f2', z0, z1, z2, fl⟩ := FB.all F5
    refine wp_region_held_drew (S := (fun _ => True)) (by kernel_rfl) trivial (fun hHeld => ?_)
    refine tk 0 ?_
    (try simp only [sps])
    refine tk 1 ?_
    (try simp only [sps])
    refine tk 2 ?_
    (try simp only [sps])
    refine tk 3 ?_
    (try simp only [sps])
    refine tk 4 ?_
    (try simp only [sps])
    refine tk 5 ?_
    (try simp only [sps])
    refine tk 6 ?_
    (try simp only [sps])
    refine tk 7 ?_
    (try simp only [sps])
    refine rdy 8 (fun K hK => ?_)
    go_simp
    refine hK.out _ _ trivial ?_
    clear hK K hHeld
    intro hHeld
    (try simp only [sps])
    refine rdy 9 (fun K hK => ?_)
    go_simp
    refine hK.out _ _ trivial ?_
    clear hK K hHeld
    intro hHeld
    (try simp only [sps])
    refine wpAnyH_done (by kernel_rfl) ?_ _
    (try simp only [sps])
    go_wp2_with fail
    exact bodyPost_ret (v := .tuple #[.agg #[.int .u8 (v : Int), .int .u8 (v : Int), .int .u8 (v : Int), .int .u8 255], tFlt0]) (by simp [results, Tryz.results198, go_sem, q0, q1, q2, q3, f0, f1, f2', k1, k2, tFlt0]) rfl ⟨y2, Blk.drew (Blk.st3 (Blk.st4 l5 ng1) ng2), ok2, b2, (Turn.st3 (Turn.st4 T5 (.inr hcl)) (.inr hfl)).drew, .inr (.inr ⟨⟨b8 s a, b8 s a, b8 s a, 255⟩, by unfold Qc.v; rw [b8_int, HV.out]; rfl, by rw [HZ.out]; exact Blk.drew (Blk.st3 (Blk.st4 s5 np1) np2), yr2, by rw [HZ.out]; exact hle, hw2, by unfold tgaPixel; rw [if_neg (fun e => e H8.out), if_pos HNM.out]⟩)⟩
/-- a pixel's boxes, and what is read -/
structure PXW (w0 w : World) (p g a : Nat) (s : ByteArray) (h : TgaHd) (y : Led) : Prop where
  C : Q0 w (w0.heap.size + 1)
  F : FB w (w0.heap.size + 1 + 1) 0 0 0
  H : TH w w0.heap.size h
  l : LedAt w g y
  s : SrcAt w p g s 0 s.size a
  T : Turn [p, g] w0 w
section
variable {w0 w w' : World} {p g a : Nat} {s : ByteArray} {h : TgaHd} {y : Led}
theorem PXW.below (X : PXW w0 w p g a s h y) (b : Below w.heap.size w w') : PXW w0 w' p g a s h y := ⟨Blk.below X.C b (Blk.lt X.C), FB.below X.F b, Blk.below X.H b (Blk.lt X.H), Blk.below X.l b (Blk.lt X.l), Blk.below X.s b (Blk.lt X.s), X.T.trans (Turn.of_below (S := [p, g]) b)⟩
theorem PXW.drew (X : PXW w0 w p g a s h y) : PXW w0 w.drew p g a s h y := ⟨Blk.drew X.C, Blk.drew X.F, Blk.drew X.H, Blk.drew X.l, Blk.drew X.s, X.T.drew⟩
theorem PXW.alloc (X : PXW w0 w p g a s h y) (o : Obj) : PXW w0 (w.alloc o) p g a s h y := X.below ((Below.refl _ _).alloc (Nat.le_refl _) _)
theorem PXW.store (X : PXW w0 w p g a s h y) {q8 : Nat} {cs : Array Value} {c0 c1 c2 c3 : Int} (D : Blk w q8 68 cs) (h1 : q8 ≠ w0.heap.size + 1) (h2 : w0.heap.size ≤ q8) : PXW w0 (st4 w q8 c0 c1 c2 c3) p g a s h y :=
  ⟨Blk.st4 X.C h1.symm, Blk.st4 X.F (Blk.ne_ X.F D (by decide)), Blk.st4 X.H (Blk.ne_ X.H D (by decide)), Blk.st4 X.l (Blk.ne_ X.l D (by decide)), Blk.st4 X.s (Blk.ne_ X.s D (by decide)), Turn.st4 X.T (.inr h2)⟩
theorem PXW.cell3 (X : PXW w0 w p g a s h y) : w.cell? ⟨w0.heap.size, 3, none⟩ = some (.int .i64 (h.first : Int)) := Blk.cell X.H 3
end
set_option maxRecDepth 100000 in
set_option maxHeartbeats 4000000 in
theorem tgaPixel_in {w : World} {p g a : Nat} {s : ByteArray} {h : TgaHd} {M : List Qc} {y : Led} {l b d : Nat} (h8 : h.depth = 8) (hmm : h.mapped) (P0 : PalHas w l b g d h.count M) (hcl0 : h.count ≤ 65535) (hf1 : h.first ≤ 65535) {q : Qc} {i : Nat} (hfi : bat s a = h.first + i) (hq : M[i]? = some q) (hsm : s.size ≤ 1099511627776) (ha : a ≤ s.size) (S0 : SrcAt w p g s 0 s.size a) (L0 : LedAt w g y) (ok : y.Ok) (hr : y.reason = 0) :
    Calls Tryz.prog 198 #[.pointer (some ⟨p, 0, none⟩), tHdV h, .pointer (some ⟨l, 0, none⟩)] w fun e w' => TPixPost w w' p g s h M a y e := by
  have H8 := Lib.hid h8
  clear h8
  have S1 : SrcAt (((w.alloc (.cells #[.int .i64 (h.name : Int), .bool h.map, .int .i64 (h.typ : Int), .int .i64 (h.first : Int), .int .i64 (h.count : Int), .int .i64 (h.entry : Int), .int .i64 (h.W : Int), .int .i64 (h.H : Int), .int .i64 (h.depth : Int), .int .i64 (h.alpha : Int), .bool h.left, .bool h.top] 121)).alloc (.cells #[.int .u8 0, .int .u8 0, .int .u8 0, .int .u8 0] 68)).alloc (.cells #[.int .i64 0, .int .i64 0, .int .i64 0] 34)) p g s 0 s.size a := Blk.alloc (Blk.alloc (Blk.alloc S0 _) _) _
  have L1 : LedAt (((w.alloc (.cells #[.int .i64 (h.name : Int), .bool h.map, .int .i64 (h.typ : Int), .int .i64 (h.first : Int), .int .i64 (h.count : Int), .int .i64 (h.entry : Int), .int .i64 (h.W : Int), .int .i64 (h.H : Int), .int .i64 (h.depth : Int), .int .i64 (h.alpha : Int), .bool h.left, .bool h.top] 121)).alloc (.cells #[.int .u8 0, .int .u8 0, .int .u8 0, .int .u8 0] 68)).alloc (.cells #[.int .i64 0, .int .i64 0, .int .i64 0] 34)) g y := Blk.alloc (Blk.alloc (Blk.alloc L0 _) _) _
  have T1 : Turn [p, g] w (((w.alloc (.cells #[.int .i64 (h.name : Int), .bool h.map, .int .i64 (h.typ : Int), .int .i64 (h.first : Int), .int .i64 (h.count : Int), .int .i64 (h.entry : Int), .int .i64 (h.W : Int), .int .i64 (h.H : Int), .int .i64 (h.depth : Int), .int .i64 (h.alpha : Int), .bool h.left, .bool h.top] 121)).alloc (.cells #[.int .u8 0, .int .u8 0, .int .u8 0, .int .u8 0] 68)).alloc (.cells #[.int .i64 0, .int .i64 0, .int .i64 0] 34)) := (((Turn.refl _ _).alloc _).alloc _).alloc _
  have H1 : TH (((w.alloc (.cells #[.int .i64 (h.name : Int), .bool h.map, .int .i64 (h.typ : Int), .int .i64 (h.first : Int), .int .i64 (h.count : Int), .int .i64 (h.entry : Int), .int .i64 (h.W : Int), .int .i64 (h.H : Int), .int .i64 (h.depth : Int), .int .i64 (h.alpha : Int), .bool h.left, .bool h.top] 121)).alloc (.cells #[.int .u8 0, .int .u8 0, .int .u8 0, .int .u8 0] 68)).alloc (.cells #[.int .i64 0, .int .i64 0, .int .i64 0] 34)) w.heap.size h := Blk.alloc (Blk.alloc (Blk.new _ _ _) _) _
  have C1 : Q0 (((w.alloc (.cells #[.int .i64 (h.name : Int), .bool h.map, .int .i64 (h.typ : Int), .int .i64 (h.first : Int), .int .i64 (h.count : Int), .int .i64 (h.entry : Int), .int .i64 (h.W : Int), .int .i64 (h.H : Int), .int .i64 (h.depth : Int), .int .i64 (h.alpha : Int), .bool h.left, .bool h.top] 121)).alloc (.cells #[.int .u8 0, .int .u8 0, .int .u8 0, .int .u8 0] 68)).alloc (.cells #[.int .i64 0, .int .i64 0, .int .i64 0] 34)) (w.heap.size + 1) := Blk.alloc (Blk.new_at _ _ _ (by simp)) _
  have F1 : FB (((w.alloc (.cells #[.int .i64 (h.name : Int), .bool h.map, .int .i64 (h.typ : Int), .int .i64 (h.first : Int), .int .i64 (h.count : Int), .int .i64 (h.entry : Int), .int .i64 (h.W : Int), .int .i64 (h.H : Int), .int .i64 (h.depth : Int), .int .i64 (h.alpha : Int), .bool h.left, .bool h.top] 121)).alloc (.cells #[.int .u8 0, .int .u8 0, .int .u8 0, .int .u8 0] 68)).alloc (.cells #[.int .i64 0, .int .i64 0, .int .i64 0] 34)) (w.heap.size + 1 + 1) 0 0 0 := Blk.new_at _ _ _ (by simp)
  have hlp := Blk.lt S0
  have hlg := Blk.lt L0
  have nh : w.heap.size ∉ [p, g] := by simp; omega
  have nc : w.heap.size + 1 ∉ [p, g] := by simp; omega
  have nf : w.heap.size + 1 + 1 ∉ [p, g] := by simp; omega
  have k1 : w.heap.size + 1 ≠ w.heap.size + 1 + 1 := by omega
  have k2 : w.heap.size + 1 + 1 ≠ w.heap.size + 1 := by omega
  have np1 : p ≠ w.heap.size + 1 := by omega
  have np2 : p ≠ w.heap.size + 1 + 1 := by omega
  have ng1 : g ≠ w.heap.size + 1 := by omega
  have ng2 : g ≠ w.heap.size + 1 + 1 := by omega
  have P1 : PalHas (((w.alloc (.cells #[.int .i64 (h.name : Int), .bool h.map, .int .i64 (h.typ : Int), .int .i64 (h.first : Int), .int .i64 (h.count : Int), .int .i64 (h.entry : Int), .int .i64 (h.W : Int), .int .i64 (h.H : Int), .int .i64 (h.depth : Int), .int .i64 (h.alpha : Int), .bool h.left, .bool h.top] 121)).alloc (.cells #[.int .u8 0, .int .u8 0, .int .u8 0, .int .u8 0] 68)).alloc (.cells #[.int .i64 0, .int .i64 0, .int .i64 0] 34)) l b g d h.count M := ((P0.below ((Below.refl _ _).alloc (Nat.le_refl _) _)).below ((Below.refl _ _).alloc (Nat.le_refl _) _)).below ((Below.refl _ _).alloc (Nat.le_refl _) _)
  have kp1 : l ∉ [p, g] := by have h1 := P0.src S0; have h2 := P0.led L0; simp only [List.mem_cons, List.not_mem_nil, or_false, not_or]; exact ⟨h1.1, h2.1⟩
  have kp2 : b ∉ [p, g] := by have h1 := P0.src S0; have h2 := P0.led L0; simp only [List.mem_cons, List.not_mem_nil, or_false, not_or]; exact ⟨h1.2.1, h2.2.1⟩
  have kp3 : d ∉ [p, g] := by have h1 := P0.src S0; have h2 := P0.led L0; simp only [List.mem_cons, List.not_mem_nil, or_false, not_or]; exact ⟨h1.2.2, h2.2.2⟩
  unfold tHdV
  go_enter Tryz.func198, Tryz.ntmps198
  go_upto_region 1 with fail
  generalize (((w.alloc (.cells #[.int .i64 (h.name : Int), .bool h.map, .int .i64 (h.typ : Int), .int .i64 (h.first : Int), .int .i64 (h.count : Int), .int .i64 (h.entry : Int), .int .i64 (h.W : Int), .int .i64 (h.H : Int), .int .i64 (h.depth : Int), .int .i64 (h.alpha : Int), .bool h.left, .bool h.top] 121)).alloc (.cells #[.int .u8 0, .int .u8 0, .int .u8 0, .int .u8 0] 68)).alloc (.cells #[.int .i64 0, .int .i64 0, .int .i64 0] 34)) = w1 at S1 L1 T1 H1 C1 F1 P1 ⊢
  have hz : h.size = 1 := by unfold TgaHd.size; rw [H8.out]
  have hd : (h.depth : Int) = 8 := by rw [H8.out]; rfl
  have HD := Lib.hid hd
  have e8 : w1.cell? ⟨w.heap.size, 8, none⟩ = some (.int .i64 (h.depth : Int)) := Blk.cell H1 8
  have HTK := Lib.hid (srcTake_ways 1 S1 (srcOkT hsm ha) L1 ok hr)
  have HT := Lib.hid T1
  have HF := Lib.hid F1
  have HH := Lib.hid H1
  have HC := Lib.hid C1
  have HS := Lib.hid S1
  have HY := Lib.hid (And.intro ok (And.intro hr (And.intro hsm ha)))
  have HZ := Lib.hid hz
  have hfl : w.heap.size ≤ w.heap.size + 1 + 1 := by omega
  have hcl : w.heap.size ≤ w.heap.size + 1 := by omega
  have HMP := Lib.hid (fun w => tgaMappedC h w)
  have hmd : decide (h.typ = 1 ∨ h.typ = 9) = true := decide_eq_true ((tgaMapped_iff h).2 hmm)
  rw [hmd] at HMP
  have HNM := Lib.hid hmm
  have HPP := Lib.hid P1
  have HCL := Lib.hid hcl0
  have HQ := Lib.hid hq
  have HFI := Lib.hid hfi
  clear hq hfi
  clear hmd hmm P1 P0 hcl0
  clear S1 L1 T1 F1 H1 C1 S0 L0 ok hr hsm ha hz
  go_upto_region 10 with (first
    | (go_at_call 175; have hM0 := HMP.out; unfold tHdV at hM0; rw [HD.out] at hM0; refine (hM0 _).mono ?_; clear hM0; rintro e w5 ⟨rfl, b5⟩; have H5 := Blk.below H2 b5 (Blk.lt H2); have C5 : Q0 w5 (w.heap.size + 1) := Blk.below C2 b5 (Blk.lt C2); have F5 := FB.below F2 b5; have P5 := P2.below b5; have T5 := T2.trans (Turn.of_below (S := [p, g]) b5); have s5 := Blk.below s2 b5 (Blk.lt s2); have l5 := Blk.below l2 b5 (Blk.lt l2); clear f0 f1 f2' z0 z1 z2 fl q0 q1 q2 q3 x0 x1 x2 x3 ql c0 c1 c2 c3 c4 c5 c6 c7 c8 c9 c10 c11 hlb)
    | (go_at_call 43; refine (srcFault_is 2 s2 l2 nr).mono ?_; rintro e w3 ⟨rfl, b3⟩; have l3 := Blk.below l2 b3 (Blk.lt l2); have s3 := Blk.below s2 b3 (Blk.lt s2); have C3 : Q0 w3 (w.heap.size + 1) := Blk.below C2 b3 (Blk.lt C2); have F3 := FB.below F2 b3; have T3 := T2.trans (Turn.of_below (S := [p, g]) b3); clear f0 f1 f2' z0 z1 z2 fl q0 q1 q2 q3 x0 x1 x2 x3 ql; obtain ⟨q0, q1, q2, q3, x0, x1, x2, x3, ql⟩ := C3.all; obtain ⟨f0, f1, f2', z0, z1, z2, fl⟩ := FB.all F3)
    | (go_at_call 82; refine HTK.out.mono ?_; rintro e w2 ⟨y2, l2, ok2, b2, t2, hor⟩; have H2 : TH w2 w.heap.size h := Blk.turn HH.out t2 nh; have C2 : Q0 w2 (w.heap.size + 1) := Blk.turn HC.out t2 nc; have F2 := FB.turn HF.out t2 nf; have T2 := HT.out.trans t2; have P2 := HPP.out.turn t2 kp1 kp2 kp3; obtain ⟨c0, c1, c2, c3, c4, c5, c6, c7, c8, c9, c10, c11, hlb⟩ := TH.all H2; obtain ⟨q0, q1, q2, q3, x0, x1, x2, x3, ql⟩ := C2.all; obtain ⟨f0, f1, f2', z0, z1, z2, fl⟩ := FB.all F2; rcases hor with ⟨kk, aa, rfl, s2, nr, nrun⟩ | ⟨rfl, s2, yr2, hle, hw2⟩)
    | (go_at_call 81; refine (srcAt_at HS.out).mono ?_; rintro e w9 ⟨rfl, rfl⟩))
  · exact bodyPost_ret (v := .tuple #[Qc.v ⟨0, 0, 0, 0⟩, tFlt kk aa]) (by simp [results, Tryz.results198, go_sem, q0, q1, q2, q3, f0, f1, f2', k1, k2, tFlt, Qc.v]) rfl ⟨y2, Blk.st3 (Blk.st4 l3 ng1) ng2, ok2, b2, Turn.st3 (Turn.st4 T3 (.inr hcl)) (.inr hfl), .inl ⟨kk, aa, rfl, Blk.st3 (Blk.st4 s3 np1) np2, nr, by rw [HZ.out]; exact nrun⟩⟩
  · have hbs : (s.extract a (a + 1)).size = 1 := extract_size s a 1 hle
    have e0 : ∀ hn : 0 < (s.extract a (a + 1)).size, ((s.extract a (a + 1))[0]'hn).toNat = bat s a := by
      intro hn
      rw [← bat_eq hn, bat_extract s a 1 0 (by decide), Nat.add_zero]
    generalize s.extract a (a + 1) = bb at hbs e0 ⊢
    have i0 : (0 : Int) < (bb.size : Int) := by omega
    have n0 : 0 < bb.size := by omega
    obtain ⟨v, hv⟩ : ∃ v, bat s a = v := ⟨_, rfl⟩
    have hvb := bat_lt s a
    rw [hv] at hvb
    have g0 := e0 n0
    rw [hv] at g0
    have HV := Lib.hid hv
    clear hv e0
    have hfB : (h.first : Int) ≤ 65535 := by omega
    have X5 : PXW w w5 p g (a + 1) s h y2 := ⟨C5, F5, H5, l5, s5, T5⟩
    have c3 := X5.cell3
    have HWI := Lib.hid (IntWalk.i64_in ((v : Int) - (h.first : Int)) (by omega))
    have hwv : IntKind.i64.wrap (v : Int) = (v : Int) := IntWalk.i64_in _ (by omega)
    have HVI : Hid ((v : Int) - (h.first : Int) = (i : Int)) := Lib.hid (by have := HFI.out; have := HV.out; omega)
    go_cut [10, 13] from 56 to 65 (fun c10 c13 wx => ∃ q8 : Nat, c13 = .pointer (some ⟨q8, 0, none⟩) ∧ c10 = .bool true ∧ Hid (PXW w wx p g (a + 1) s h y2 ∧ Blk wx q8 68 #[.int .u8 (q.r.toNat : Int), .int .u8 (q.g.toNat : Int), .int .u8 (q.b.toNat : Int), .int .u8 (q.a.toNat : Int)] ∧ q8 ≠ w.heap.size + 1 ∧ w.heap.size ≤ q8))
    case first =>
      refine wp_region_held_drew (S := (fun w9 => w9.cell? ⟨w.heap.size, 3, none⟩ = some (.int .i64 (h.first : Int)))) (by kernel_rfl) c3 (fun hHeld => ?_)
      refine tk 0 ?_
      (try simp only [sps])
      refine tk 1 ?_
      (try simp only [sps])
      refine tk 2 ?_
      (try simp only [sps])
      refine tk 3 ?_
      (try simp only [sps])
      refine tk 4 ?_
      (try simp only [sps])
      refine tk 5 ?_
      (try simp only [sps])
      refine tk 6 ?_
      (try simp only [sps])
      refine wpAnyH_ready (rs := [7, 11]) (by kernel_rfl) (by simp) ?_
      refine AllReadyH.cons rfl (fun K hK => ?_) (AllReadyH.cons rfl (fun K hK => ?_) AllReadyH.nil)
      · go_simp
        rw [HWI.out, HVI.out]
        refine (has_of P5.drewT (by have := HCL.out; omega) HQ.out).mono ?_
        rintro e w6 ⟨rfl, b6⟩
        have X6 := X5.drew.below b6
        refine hK.out _ _ X6.cell3 ?_
        clear hK K hHeld
        intro hHeld
        (try simp only [sps])
        refine tk 8 ?_
        (try simp only [sps])
        refine tk 9 ?_
        (try simp only [sps])
        refine tk 10 ?_
        (try simp only [sps])
        refine rdy 11 (fun K hK => ?_)
        go_simp
        have X7 := X6.alloc (.cells #[.int .u8 0, .int .u8 0, .int .u8 0, .int .u8 0] 68)
        have D7 : Blk (w6.alloc (.cells #[.int .u8 0, .int .u8 0, .int .u8 0, .int .u8 0] 68)) w6.heap.size 68 #[.int .u8 0, .int .u8 0, .int .u8 0, .int .u8 0] := Blk.new _ _ _
        have hq1 : w6.heap.size ≠ w.heap.size + 1 := by have := Blk.lt X6.C; omega
        have hq2 : w.heap.size ≤ w6.heap.size := by have := Blk.lt X6.H; omega
        generalize w6.alloc (.cells #[.int .u8 0, .int .u8 0, .int .u8 0, .int .u8 0] 68) = w7 at X7 D7 ⊢
        generalize w6.heap.size = q8 at D7 hq1 hq2 ⊢
        have v0 := Blk.frozen D7 0
        have v1 := Blk.frozen D7 1
        have v2 := Blk.frozen D7 2
        have v3 := Blk.frozen D7 3
        have u0 := Blk.cell D7 0
        have u1 := Blk.cell D7 1
        have u2 := Blk.cell D7 2
        have u3 := Blk.cell D7 3
        have ul := Blk.lt D7
        refine hK.out _ _ X7.cell3 ?_
        clear hK K hHeld
        intro hHeld
        (try simp only [sps])
        refine rdy 12 (fun K hK => ?_)
        go_simp
        have D8 : Blk (st4 w7 q8 (q.r.toNat : Int) (q.g.toNat : Int) (q.b.toNat : Int) (q.a.toNat : Int)) q8 68 #[.int .u8 (q.r.toNat : Int), .int .u8 (q.g.toNat : Int), .int .u8 (q.b.toNat : Int), .int .u8 (q.a.toNat : Int)] := ((((Blk.set_ D7 0 _).set_ 1 _).set_ 2 _).set_ 3 _).eq_ (by simp)
        have X8 := X7.store (c0 := (q.r.toNat : Int)) (c1 := (q.g.toNat : Int)) (c2 := (q.b.toNat : Int)) (c3 := (q.a.toNat : Int)) D7 hq1 hq2
        refine hK.out _ _ X8.cell3 ?_
        clear hK K hHeld
        intro hHeld
        (try simp only [sps])
        refine tk 13 ?_
        (try simp only [sps])
        refine wpAnyH_done (by kernel_rfl) ?_ _
        (try simp only [sps])
        go_wp2_with fail
        go_meet
        case rel => exact ⟨q8, rfl, rfl, Lib.hid ⟨X8, D8, hq1, hq2⟩⟩
      · go_simp
        have X6 := (X5.alloc (.cells #[.int .u8 0, .int .u8 0, .int .u8 0, .int .u8 0] 68)).drew
        have D7 : Blk (w5.alloc (.cells #[.int .u8 0, .int .u8 0, .int .u8 0, .int .u8 0] 68)).drew w5.heap.size 68 #[.int .u8 0, .int .u8 0, .int .u8 0, .int .u8 0] := Blk.drew (Blk.new _ _ _)
        have hq1 : w5.heap.size ≠ w.heap.size + 1 := by have := Blk.lt X5.C; omega
        have hq2 : w.heap.size ≤ w5.heap.size := by have := Blk.lt X5.H; omega
        have P6 := (P5.below ((Below.refl _ _).alloc (Nat.le_refl _) (.cells #[.int .u8 0, .int .u8 0, .int .u8 0, .int .u8 0] 68))).drewT
        generalize (w5.alloc (.cells #[.int .u8 0, .int .u8 0, .int .u8 0, .int .u8 0] 68)).drew = w6 at X6 D7 P6 ⊢
        generalize w5.heap.size = q8 at D7 hq1 hq2 ⊢
        have v0 := Blk.frozen D7 0
        have v1 := Blk.frozen D7 1
        have v2 := Blk.frozen D7 2
        have v3 := Blk.frozen D7 3
        have u0 := Blk.cell D7 0
        have u1 := Blk.cell D7 1
        have u2 := Blk.cell D7 2
        have u3 := Blk.cell D7 3
        have ul := Blk.lt D7
        refine hK.out _ _ X6.cell3 ?_
        clear hK K hHeld
        intro hHeld
        (try simp only [sps])
        refine rdy 7 (fun K hK => ?_)
        go_simp
        rw [HWI.out, HVI.out]
        refine (has_of P6 (by have := HCL.out; omega) HQ.out).mono ?_
        rintro e w7 ⟨rfl, b7⟩
        have X7 := X6.below b7
        have E7 := Blk.below D7 b7 (Blk.lt D7)
        clear v0 v1 v2 v3 u0 u1 u2 u3 ul D7
        have D7 := E7
        have v0 := Blk.frozen D7 0
        have v1 := Blk.frozen D7 1
        have v2 := Blk.frozen D7 2
        have v3 := Blk.frozen D7 3
        have u0 := Blk.cell D7 0
        have u1 := Blk.cell D7 1
        have u2 := Blk.cell D7 2
        have u3 := Blk.cell D7 3
        have ul := Blk.lt D7
        refine hK.out _ _ X7.cell3 ?_
        clear hK K hHeld
        intro hHeld
        (try simp only [sps])
        refine tk 8 ?_
        (try simp only [sps])
        refine tk 9 ?_
        (try simp only [sps])
        refine tk 10 ?_
        (try simp only [sps])
        refine rdy 12 (fun K hK => ?_)
        go_simp
        have D8 : Blk (st4 w7 q8 (q.r.toNat : Int) (q.g.toNat : Int) (q.b.toNat : Int) (q.a.toNat : Int)) q8 68 #[.int .u8 (q.r.toNat : Int), .int .u8 (q.g.toNat : Int), .int .u8 (q.b.toNat : Int), .int .u8 (q.a.toNat : Int)] := ((((Blk.set_ D7 0 _).set_ 1 _).set_ 2 _).set_ 3 _).eq_ (by simp)
        have X8 := X7.store (c0 := (q.r.toNat : Int)) (c1 := (q.g.toNat : Int)) (c2 := (q.b.toNat : Int)) (c3 := (q.a.toNat : Int)) D7 hq1 hq2
        refine hK.out _ _ X8.cell3 ?_
        clear hK K hHeld
        intro hHeld
        (try simp only [sps])
        refine tk 13 ?_
        (try simp only [sps])
        refine wpAnyH_done (by kernel_rfl) ?_ _
        (try simp only [sps])
        go_wp2_with fail
        go_meet
        case rel => exact ⟨q8, rfl, rfl, Lib.hid ⟨X8, D8, hq1, hq2⟩⟩
    case rest =>
      obtain ⟨q8, rfl, rfl, HX⟩ := hcut
      clear X5 c3 C5 F5 H5 l5 s5 T5 P5 P2
      have C7 := HX.out.1.C
      have F7 := HX.out.1.F
      have D7 := HX.out.2.1
      have hq1 := HX.out.2.2.1
      have hq2 : q8 ≠ w.heap.size + 1 + 1 := Blk.ne_ D7 F7 (by decide)
      obtain ⟨q0, q1, q2, q3, x0, x1, x2, x3, ql⟩ := C7.all
      obtain ⟨f0, f1, f2', z0, z1, z2, fl⟩ := FB.all F7
      have d0 := Blk.cell D7 0
      have d1 := Blk.cell D7 1
      have d2 := Blk.cell D7 2
      have d3 := Blk.cell D7 3
      have dl := Blk.lt D7
      have hq1' := hq1.symm
      have hq2' := hq2.symm
      go_wp2_with fail
      exact bodyPost_ret (v := .tuple #[q.v, tFlt0]) (by simp [results, Tryz.results198, go_sem, q0, q1, q2, q3, f0, f1, f2', k1, k2, tFlt0, Qc.v]) rfl ⟨y2, Blk.st3 (Blk.st4 HX.out.1.l ng1) ng2, ok2, b2, Turn.st3 (Turn.st4 HX.out.1.T (.inr hcl)) (.inr hfl), .inr (.inr ⟨q, rfl, by rw [HZ.out]; exact Blk.st3 (Blk.st4 HX.out.1.s np1) np2, yr2, by rw [HZ.out]; exact hle, hw2, by have h1 := HFI.out; have h2 := HQ.out; have h3 := (List.getElem?_eq_some_iff.1 h2).1; unfold tgaPixel; rw [if_neg (fun e => e H8.out), if_neg (fun e => e HNM.out), show bat s a - h.first = i by omega, if_pos ⟨by omega, h3⟩, List.getD_eq_getElem?_getD, h2]; rfl⟩)⟩
set_option maxRecDepth 100000 in
set_option maxHeartbeats 4000000 in
theorem tgaPixel_out {w : World} {p g a : Nat} {s : ByteArray} {h : TgaHd} {M : List Qc} {y : Led} {l b d : Nat} (h8 : h.depth = 8) (hmm : h.mapped) (P0 : PalHas w l b g d h.count M) (hcl0 : h.count ≤ 65535) (hf1 : h.first ≤ 65535) (hno : ¬ (h.first ≤ bat s a ∧ bat s a - h.first < M.length)) (hsm : s.size ≤ 1099511627776) (ha : a ≤ s.size) (S0 : SrcAt w p g s 0 s.size a) (L0 : LedAt w g y) (ok : y.Ok) (hr : y.reason = 0) :
    Calls Tryz.prog 198 #[.pointer (some ⟨p, 0, none⟩), tHdV h, .pointer (some ⟨l, 0, none⟩)] w fun e w' => TPixPost w w' p g s h M a y e := by
  have H8 := Lib.hid h8
  clear h8
  have S1 : SrcAt (((w.alloc (.cells #[.int .i64 (h.name : Int), .bool h.map, .int .i64 (h.typ : Int), .int .i64 (h.first : Int), .int .i64 (h.count : Int), .int .i64 (h.entry : Int), .int .i64 (h.W : Int), .int .i64 (h.H : Int), .int .i64 (h.depth : Int), .int .i64 (h.alpha : Int), .bool h.left, .bool h.top] 121)).alloc (.cells #[.int .u8 0, .int .u8 0, .int .u8 0, .int .u8 0] 68)).alloc (.cells #[.int .i64 0, .int .i64 0, .int .i64 0] 34)) p g s 0 s.size a := Blk.alloc (Blk.alloc (Blk.alloc S0 _) _) _
  have L1 : LedAt (((w.alloc (.cells #[.int .i64 (h.name : Int), .bool h.map, .int .i64 (h.typ : Int), .int .i64 (h.first : Int), .int .i64 (h.count : Int), .int .i64 (h.entry : Int), .int .i64 (h.W : Int), .int .i64 (h.H : Int), .int .i64 (h.depth : Int), .int .i64 (h.alpha : Int), .bool h.left, .bool h.top] 121)).alloc (.cells #[.int .u8 0, .int .u8 0, .int .u8 0, .int .u8 0] 68)).alloc (.cells #[.int .i64 0, .int .i64 0, .int .i64 0] 34)) g y := Blk.alloc (Blk.alloc (Blk.alloc L0 _) _) _
  have T1 : Turn [p, g] w (((w.alloc (.cells #[.int .i64 (h.name : Int), .bool h.map, .int .i64 (h.typ : Int), .int .i64 (h.first : Int), .int .i64 (h.count : Int), .int .i64 (h.entry : Int), .int .i64 (h.W : Int), .int .i64 (h.H : Int), .int .i64 (h.depth : Int), .int .i64 (h.alpha : Int), .bool h.left, .bool h.top] 121)).alloc (.cells #[.int .u8 0, .int .u8 0, .int .u8 0, .int .u8 0] 68)).alloc (.cells #[.int .i64 0, .int .i64 0, .int .i64 0] 34)) := (((Turn.refl _ _).alloc _).alloc _).alloc _
  have H1 : TH (((w.alloc (.cells #[.int .i64 (h.name : Int), .bool h.map, .int .i64 (h.typ : Int), .int .i64 (h.first : Int), .int .i64 (h.count : Int), .int .i64 (h.entry : Int), .int .i64 (h.W : Int), .int .i64 (h.H : Int), .int .i64 (h.depth : Int), .int .i64 (h.alpha : Int), .bool h.left, .bool h.top] 121)).alloc (.cells #[.int .u8 0, .int .u8 0, .int .u8 0, .int .u8 0] 68)).alloc (.cells #[.int .i64 0, .int .i64 0, .int .i64 0] 34)) w.heap.size h := Blk.alloc (Blk.alloc (Blk.new _ _ _) _) _
  have C1 : Q0 (((w.alloc (.cells #[.int .i64 (h.name : Int), .bool h.map, .int .i64 (h.typ : Int), .int .i64 (h.first : Int), .int .i64 (h.count : Int), .int .i64 (h.entry : Int), .int .i64 (h.W : Int), .int .i64 (h.H : Int), .int .i64 (h.depth : Int), .int .i64 (h.alpha : Int), .bool h.left, .bool h.top] 121)).alloc (.cells #[.int .u8 0, .int .u8 0, .int .u8 0, .int .u8 0] 68)).alloc (.cells #[.int .i64 0, .int .i64 0, .int .i64 0] 34)) (w.heap.size + 1) := Blk.alloc (Blk.new_at _ _ _ (by simp)) _
  have F1 : FB (((w.alloc (.cells #[.int .i64 (h.name : Int), .bool h.map, .int .i64 (h.typ : Int), .int .i64 (h.first : Int), .int .i64 (h.count : Int), .int .i64 (h.entry : Int), .int .i64 (h.W : Int), .int .i64 (h.H : Int), .int .i64 (h.depth : Int), .int .i64 (h.alpha : Int), .bool h.left, .bool h.top] 121)).alloc (.cells #[.int .u8 0, .int .u8 0, .int .u8 0, .int .u8 0] 68)).alloc (.cells #[.int .i64 0, .int .i64 0, .int .i64 0] 34)) (w.heap.size + 1 + 1) 0 0 0 := Blk.new_at _ _ _ (by simp)
  have hlp := Blk.lt S0
  have hlg := Blk.lt L0
  have nh : w.heap.size ∉ [p, g] := by simp; omega
  have nc : w.heap.size + 1 ∉ [p, g] := by simp; omega
  have nf : w.heap.size + 1 + 1 ∉ [p, g] := by simp; omega
  have k1 : w.heap.size + 1 ≠ w.heap.size + 1 + 1 := by omega
  have k2 : w.heap.size + 1 + 1 ≠ w.heap.size + 1 := by omega
  have np1 : p ≠ w.heap.size + 1 := by omega
  have np2 : p ≠ w.heap.size + 1 + 1 := by omega
  have ng1 : g ≠ w.heap.size + 1 := by omega
  have ng2 : g ≠ w.heap.size + 1 + 1 := by omega
  have P1 : PalHas (((w.alloc (.cells #[.int .i64 (h.name : Int), .bool h.map, .int .i64 (h.typ : Int), .int .i64 (h.first : Int), .int .i64 (h.count : Int), .int .i64 (h.entry : Int), .int .i64 (h.W : Int), .int .i64 (h.H : Int), .int .i64 (h.depth : Int), .int .i64 (h.alpha : Int), .bool h.left, .bool h.top] 121)).alloc (.cells #[.int .u8 0, .int .u8 0, .int .u8 0, .int .u8 0] 68)).alloc (.cells #[.int .i64 0, .int .i64 0, .int .i64 0] 34)) l b g d h.count M := ((P0.below ((Below.refl _ _).alloc (Nat.le_refl _) _)).below ((Below.refl _ _).alloc (Nat.le_refl _) _)).below ((Below.refl _ _).alloc (Nat.le_refl _) _)
  have kp1 : l ∉ [p, g] := by have h1 := P0.src S0; have h2 := P0.led L0; simp only [List.mem_cons, List.not_mem_nil, or_false, not_or]; exact ⟨h1.1, h2.1⟩
  have kp2 : b ∉ [p, g] := by have h1 := P0.src S0; have h2 := P0.led L0; simp only [List.mem_cons, List.not_mem_nil, or_false, not_or]; exact ⟨h1.2.1, h2.2.1⟩
  have kp3 : d ∉ [p, g] := by have h1 := P0.src S0; have h2 := P0.led L0; simp only [List.mem_cons, List.not_mem_nil, or_false, not_or]; exact ⟨h1.2.2, h2.2.2⟩
  unfold tHdV
  go_enter Tryz.func198, Tryz.ntmps198
  go_upto_region 1 with fail
  generalize (((w.alloc (.cells #[.int .i64 (h.name : Int), .bool h.map, .int .i64 (h.typ : Int), .int .i64 (h.first : Int), .int .i64 (h.count : Int), .int .i64 (h.entry : Int), .int .i64 (h.W : Int), .int .i64 (h.H : Int), .int .i64 (h.depth : Int), .int .i64 (h.alpha : Int), .bool h.left, .bool h.top] 121)).alloc (.cells #[.int .u8 0, .int .u8 0, .int .u8 0, .int .u8 0] 68)).alloc (.cells #[.int .i64 0, .int .i64 0, .int .i64 0] 34)) = w1 at S1 L1 T1 H1 C1 F1 P1 ⊢
  have hz : h.size = 1 := by unfold TgaHd.size; rw [H8.out]
  have hd : (h.depth : Int) = 8 := by rw [H8.out]; rfl
  have HD := Lib.hid hd
  have e8 : w1.cell? ⟨w.heap.size, 8, none⟩ = some (.int .i64 (h.depth : Int)) := Blk.cell H1 8
  have HTK := Lib.hid (srcTake_ways 1 S1 (srcOkT hsm ha) L1 ok hr)
  have HT := Lib.hid T1
  have HF := Lib.hid F1
  have HH := Lib.hid H1
  have HC := Lib.hid C1
  have HS := Lib.hid S1
  have HY := Lib.hid (And.intro ok (And.intro hr (And.intro hsm ha)))
  have HZ := Lib.hid hz
  have hfl : w.heap.size ≤ w.heap.size + 1 + 1 := by omega
  have hcl : w.heap.size ≤ w.heap.size + 1 := by omega
  have HMP := Lib.hid (fun w => tgaMappedC h w)
  have hmd : decide (h.typ = 1 ∨ h.typ = 9) = true := decide_eq_true ((tgaMapped_iff h).2 hmm)
  rw [hmd] at HMP
  have HNM := Lib.hid hmm
  have HPP := Lib.hid P1
  have HCL := Lib.hid hcl0
  have HNO := Lib.hid hno
  clear hno
  clear hmd hmm P1 P0 hcl0
  clear S1 L1 T1 F1 H1 C1 S0 L0 ok hr hsm ha hz
  go_upto_region 10 with (first
    | (go_at_call 175; have hM0 := HMP.out; unfold tHdV at hM0; rw [HD.out] at hM0; refine (hM0 _).mono ?_; clear hM0; rintro e w5 ⟨rfl, b5⟩; have H5 := Blk.below H2 b5 (Blk.lt H2); have C5 : Q0 w5 (w.heap.size + 1) := Blk.below C2 b5 (Blk.lt C2); have F5 := FB.below F2 b5; have P5 := P2.below b5; have T5 := T2.trans (Turn.of_below (S := [p, g]) b5); have s5 := Blk.below s2 b5 (Blk.lt s2); have l5 := Blk.below l2 b5 (Blk.lt l2); clear f0 f1 f2' z0 z1 z2 fl q0 q1 q2 q3 x0 x1 x2 x3 ql c0 c1 c2 c3 c4 c5 c6 c7 c8 c9 c10 c11 hlb)
    | (go_at_call 43; refine (srcFault_is 2 s2 l2 nr).mono ?_; rintro e w3 ⟨rfl, b3⟩; have l3 := Blk.below l2 b3 (Blk.lt l2); have s3 := Blk.below s2 b3 (Blk.lt s2); have C3 : Q0 w3 (w.heap.size + 1) := Blk.below C2 b3 (Blk.lt C2); have F3 := FB.below F2 b3; have T3 := T2.trans (Turn.of_below (S := [p, g]) b3); clear f0 f1 f2' z0 z1 z2 fl q0 q1 q2 q3 x0 x1 x2 x3 ql; obtain ⟨q0, q1, q2, q3, x0, x1, x2, x3, ql⟩ := C3.all; obtain ⟨f0, f1, f2', z0, z1, z2, fl⟩ := FB.all F3)
    | (go_at_call 82; refine HTK.out.mono ?_; rintro e w2 ⟨y2, l2, ok2, b2, t2, hor⟩; have H2 : TH w2 w.heap.size h := Blk.turn HH.out t2 nh; have C2 : Q0 w2 (w.heap.size + 1) := Blk.turn HC.out t2 nc; have F2 := FB.turn HF.out t2 nf; have T2 := HT.out.trans t2; have P2 := HPP.out.turn t2 kp1 kp2 kp3; obtain ⟨c0, c1, c2, c3, c4, c5, c6, c7, c8, c9, c10, c11, hlb⟩ := TH.all H2; obtain ⟨q0, q1, q2, q3, x0, x1, x2, x3, ql⟩ := C2.all; obtain ⟨f0, f1, f2', z0, z1, z2, fl⟩ := FB.all F2; rcases hor with ⟨kk, aa, rfl, s2, nr, nrun⟩ | ⟨rfl, s2, yr2, hle, hw2⟩)
    | (go_at_call 81; refine (srcAt_at HS.out).mono ?_; rintro e w9 ⟨rfl, rfl⟩))
  · exact bodyPost_ret (v := .tuple #[Qc.v ⟨0, 0, 0, 0⟩, tFlt kk aa]) (by simp [results, Tryz.results198, go_sem, q0, q1, q2, q3, f0, f1, f2', k1, k2, tFlt, Qc.v]) rfl ⟨y2, Blk.st3 (Blk.st4 l3 ng1) ng2, ok2, b2, Turn.st3 (Turn.st4 T3 (.inr hcl)) (.inr hfl), .inl ⟨kk, aa, rfl, Blk.st3 (Blk.st4 s3 np1) np2, nr, by rw [HZ.out]; exact nrun⟩⟩
  · have hbs : (s.extract a (a + 1)).size = 1 := extract_size s a 1 hle
    have e0 : ∀ hn : 0 < (s.extract a (a + 1)).size, ((s.extract a (a + 1))[0]'hn).toNat = bat s a := by
      intro hn
      rw [← bat_eq hn, bat_extract s a 1 0 (by decide), Nat.add_zero]
    generalize s.extract a (a + 1) = bb at hbs e0 ⊢
    have i0 : (0 : Int) < (bb.size : Int) := by omega
    have n0 : 0 < bb.size := by omega
    obtain ⟨v, hv⟩ : ∃ v, bat s a = v := ⟨_, rfl⟩
    have hvb := bat_lt s a
    rw [hv] at hvb
    have g0 := e0 n0
    rw [hv] at g0
    have HV := Lib.hid hv
    clear hv e0
    have hfB : (h.first : Int) ≤ 65535 := by omega
    have X5 : PXW w w5 p g (a + 1) s h y2 := ⟨C5, F5, H5, l5, s5, T5⟩
    have c3 := X5.cell3
    have HWI := Lib.hid (IntWalk.i64_in ((v : Int) - (h.first : Int)) (by omega))
    have hwv : IntKind.i64.wrap (v : Int) = (v : Int) := IntWalk.i64_in _ (by omega)
    go_cut [10, 13] from 56 to 65 (fun c10 c13 wx => ∃ q8 : Nat, c13 = .pointer (some ⟨q8, 0, none⟩) ∧ c10 = .bool false ∧ Hid (PXW w wx p g (a + 1) s h y2 ∧ Blk wx q8 68 #[.int .u8 0, .int .u8 0, .int .u8 0, .int .u8 0] ∧ q8 ≠ w.heap.size + 1 ∧ w.heap.size ≤ q8))
    case first =>
      refine wp_region_held_drew (S := (fun w9 => w9.cell? ⟨w.heap.size, 3, none⟩ = some (.int .i64 (h.first : Int)))) (by kernel_rfl) c3 (fun hHeld => ?_)
      refine tk 0 ?_
      (try simp only [sps])
      refine tk 1 ?_
      (try simp only [sps])
      refine tk 2 ?_
      (try simp only [sps])
      refine tk 3 ?_
      (try simp only [sps])
      refine tk 4 ?_
      (try simp only [sps])
      refine tk 5 ?_
      (try simp only [sps])
      refine tk 6 ?_
      (try simp only [sps])
      refine wpAnyH_ready (rs := [7, 11]) (by kernel_rfl) (by simp) ?_
      refine AllReadyH.cons rfl (fun K hK => ?_) (AllReadyH.cons rfl (fun K hK => ?_) AllReadyH.nil)
      · go_simp
        rw [HWI.out]
        refine (palOf_no (i := (v : Int) - (h.first : Int)) P5.drewT.1 (by have h1 := HNO.out; have h2 := HV.out; omega)).mono ?_
        rintro e w6 ⟨rfl, b6⟩
        have X6 := X5.drew.below b6
        refine hK.out _ _ X6.cell3 ?_
        clear hK K hHeld
        intro hHeld
        (try simp only [sps])
        refine tk 8 ?_
        (try simp only [sps])
        refine tk 9 ?_
        (try simp only [sps])
        refine tk 10 ?_
        (try simp only [sps])
        refine rdy 11 (fun K hK => ?_)
        go_simp
        have X7 := X6.alloc (.cells #[.int .u8 0, .int .u8 0, .int .u8 0, .int .u8 0] 68)
        have D7 : Blk (w6.alloc (.cells #[.int .u8 0, .int .u8 0, .int .u8 0, .int .u8 0] 68)) w6.heap.size 68 #[.int .u8 0, .int .u8 0, .int .u8 0, .int .u8 0] := Blk.new _ _ _
        have hq1 : w6.heap.size ≠ w.heap.size + 1 := by have := Blk.lt X6.C; omega
        have hq2 : w.heap.size ≤ w6.heap.size := by have := Blk.lt X6.H; omega
        generalize w6.alloc (.cells #[.int .u8 0, .int .u8 0, .int .u8 0, .int .u8 0] 68) = w7 at X7 D7 ⊢
        generalize w6.heap.size = q8 at D7 hq1 hq2 ⊢
        have v0 := Blk.frozen D7 0
        have v1 := Blk.frozen D7 1
        have v2 := Blk.frozen D7 2
        have v3 := Blk.frozen D7 3
        have u0 := Blk.cell D7 0
        have u1 := Blk.cell D7 1
        have u2 := Blk.cell D7 2
        have u3 := Blk.cell D7 3
        have ul := Blk.lt D7
        refine hK.out _ _ X7.cell3 ?_
        clear hK K hHeld
        intro hHeld
        (try simp only [sps])
        refine rdy 12 (fun K hK => ?_)
        go_simp
        have D8 : Blk (st4 w7 q8 (0) (0) (0) (0)) q8 68 #[.int .u8 0, .int .u8 0, .int .u8 0, .int .u8 0] := ((((Blk.set_ D7 0 _).set_ 1 _).set_ 2 _).set_ 3 _).eq_ (by simp)
        have X8 := X7.store (c0 := 0) (c1 := 0) (c2 := 0) (c3 := 0) D7 hq1 hq2
        refine hK.out _ _ X8.cell3 ?_
        clear hK K hHeld
        intro hHeld
        (try simp only [sps])
        refine tk 13 ?_
        (try simp only [sps])
        refine wpAnyH_done (by kernel_rfl) ?_ _
        (try simp only [sps])
        go_wp2_with fail
        go_meet
        case rel => exact ⟨q8, rfl, rfl, Lib.hid ⟨X8, D8, hq1, hq2⟩⟩
      · go_simp
        have X6 := (X5.alloc (.cells #[.int .u8 0, .int .u8 0, .int .u8 0, .int .u8 0] 68)).drew
        have D7 : Blk (w5.alloc (.cells #[.int .u8 0, .int .u8 0, .int .u8 0, .int .u8 0] 68)).drew w5.heap.size 68 #[.int .u8 0, .int .u8 0, .int .u8 0, .int .u8 0] := Blk.drew (Blk.new _ _ _)
        have hq1 : w5.heap.size ≠ w.heap.size + 1 := by have := Blk.lt X5.C; omega
        have hq2 : w.heap.size ≤ w5.heap.size := by have := Blk.lt X5.H; omega
        have P6 := (P5.below ((Below.refl _ _).alloc (Nat.le_refl _) (.cells #[.int .u8 0, .int .u8 0, .int .u8 0, .int .u8 0] 68))).drewT
        generalize (w5.alloc (.cells #[.int .u8 0, .int .u8 0, .int .u8 0, .int .u8 0] 68)).drew = w6 at X6 D7 P6 ⊢
        generalize w5.heap.size = q8 at D7 hq1 hq2 ⊢
        have v0 := Blk.frozen D7 0
        have v1 := Blk.frozen D7 1
        have v2 := Blk.frozen D7 2
        have v3 := Blk.frozen D7 3
        have u0 := Blk.cell D7 0
        have u1 := Blk.cell D7 1
        have u2 := Blk.cell D7 2
        have u3 := Blk.cell D7 3
        have ul := Blk.lt D7
        refine hK.out _ _ X6.cell3 ?_
        clear hK K hHeld
        intro hHeld
        (try simp only [sps])
        refine rdy 7 (fun K hK => ?_)
        go_simp
        rw [HWI.out]
        refine (palOf_no (i := (v : Int) - (h.first : Int)) P6.1 (by have h1 := HNO.out; have h2 := HV.out; omega)).mono ?_
        rintro e w7 ⟨rfl, b7⟩
        have X7 := X6.below b7
        have E7 := Blk.below D7 b7 (Blk.lt D7)
        clear v0 v1 v2 v3 u0 u1 u2 u3 ul D7
        have D7 := E7
        have v0 := Blk.frozen D7 0
        have v1 := Blk.frozen D7 1
        have v2 := Blk.frozen D7 2
        have v3 := Blk.frozen D7 3
        have u0 := Blk.cell D7 0
        have u1 := Blk.cell D7 1
        have u2 := Blk.cell D7 2
        have u3 := Blk.cell D7 3
        have ul := Blk.lt D7
        refine hK.out _ _ X7.cell3 ?_
        clear hK K hHeld
        intro hHeld
        (try simp only [sps])
        refine tk 8 ?_
        (try simp only [sps])
        refine tk 9 ?_
        (try simp only [sps])
        refine tk 10 ?_
        (try simp only [sps])
        refine rdy 12 (fun K hK => ?_)
        go_simp
        have D8 : Blk (st4 w7 q8 (0) (0) (0) (0)) q8 68 #[.int .u8 0, .int .u8 0, .int .u8 0, .int .u8 0] := ((((Blk.set_ D7 0 _).set_ 1 _).set_ 2 _).set_ 3 _).eq_ (by simp)
        have X8 := X7.store (c0 := 0) (c1 := 0) (c2 := 0) (c3 := 0) D7 hq1 hq2
        refine hK.out _ _ X8.cell3 ?_
        clear hK K hHeld
        intro hHeld
        (try simp only [sps])
        refine tk 13 ?_
        (try simp only [sps])
        refine wpAnyH_done (by kernel_rfl) ?_ _
        (try simp only [sps])
        go_wp2_with fail
        go_meet
        case rel => exact ⟨q8, rfl, rfl, Lib.hid ⟨X8, D8, hq1, hq2⟩⟩
    case rest =>
      obtain ⟨q8, rfl, rfl, HX⟩ := hcut
      clear X5 c3 C5 F5 H5 l5 s5 T5 P5 P2
      have C7 := HX.out.1.C
      have F7 := HX.out.1.F
      have D7 := HX.out.2.1
      have hq1 := HX.out.2.2.1
      have hq2 : q8 ≠ w.heap.size + 1 + 1 := Blk.ne_ D7 F7 (by decide)
      obtain ⟨q0, q1, q2, q3, x0, x1, x2, x3, ql⟩ := C7.all
      obtain ⟨f0, f1, f2', z0, z1, z2, fl⟩ := FB.all F7
      have d0 := Blk.cell D7 0
      have d1 := Blk.cell D7 1
      have d2 := Blk.cell D7 2
      have d3 := Blk.cell D7 3
      have dl := Blk.lt D7
      have hq1' := hq1.symm
      have hq2' := hq2.symm
      go_wp2_with fail
      exact bodyPost_ret (v := .tuple #[Qc.v ⟨0, 0, 0, 0⟩, tFlt 2 a]) (by simp [results, Tryz.results198, go_sem, q0, q1, q2, q3, f0, f1, f2', k1, k2, tFlt, Qc.v]) rfl ⟨y2, Blk.st3 (Blk.st4 HX.out.1.l ng1) ng2, ok2, b2, Turn.st3 (Turn.st4 HX.out.1.T (.inr hcl)) (.inr hfl), .inr (.inl ⟨rfl, by rw [HZ.out]; exact Blk.st3 (Blk.st4 HX.out.1.s np1) np2, yr2, by rw [HZ.out]; exact hle, hw2, by unfold tgaPixel; rw [if_neg (fun e => e H8.out), if_neg (fun e => e HNM.out), if_neg HNO.out]⟩)⟩
theorem tgaPixelC {w : World} {p g a m B : Nat} {s : ByteArray} {h : TgaHd} {M : List Qc} {y : Led} {lv : Value} (hh : h.Ok) (TP : TPal w g h lv M m B) (hsm : s.size ≤ 1099511627776) (ha : a ≤ s.size) (S0 : SrcAt w p g s 0 s.size a) (L0 : LedAt w g y) (ok : y.Ok) (hr : y.reason = 0) :
    Calls Tryz.prog 198 #[.pointer (some ⟨p, 0, none⟩), tHdV h, lv] w fun e w' => TPixPost w w' p g s h M a y e := by
  by_cases h8 : h.depth = 8
  · rcases TP with ⟨hn, _, _, _⟩ | ⟨hm, hc, _, _, l, b, d, rfl, P, _⟩
    · exact tgaPixel_gray h8 hn hsm ha S0 L0 ok hr
    · by_cases hin : h.first ≤ bat s a ∧ bat s a - h.first < M.length
      · exact tgaPixel_in h8 hm P hc hh.f1 (i := bat s a - h.first) (by have := hin.1; omega) (List.getElem?_eq_getElem hin.2) hsm ha S0 L0 ok hr
      · exact tgaPixel_out h8 hm P hc hh.f1 hin hsm ha S0 L0 ok hr
  · have hc : TgaCol h.depth := by
      have := hh.d1
      unfold TgaDepth at this
      split at this
      · exact this
      · exact absurd this h8
    exact tgaPixel_col hc h8 hsm ha S0 L0 ok hr
end Go.Proofs.YtlehkgkomjojmaaGreat
