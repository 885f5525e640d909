/- A pixel of TGA's: the colour of its bytes. -/
import Derived.Test.YtlehkgkomjojmaaGreatGTgaF
namespace Go.Proofs.YtlehkgkomjojmaaGreat
open Go.RowKit
set_option linter.unusedVariables false
set_option linter.unusedSimpArgs false

/-- a colour of a pixel's bytes, by themselves -/
def tgaQb (b : ByteArray) (n al : Nat) : Qc :=
 if n = 16 ∧ al = 1 ∧ bat b 1 < 128 then { ecol (tgaKind n : Int) b.data.toList with a := 0 }
 else if n = 32 ∧ al = 0 then { ecol (tgaKind n : Int) b.data.toList with a := 255 }
 else ecol (tgaKind n : Int) b.data.toList
theorem ofInt8_nat (a : Nat) (ha : a < 256) : (BitVec.ofInt 8 (a : Int)).toNat = a := by
 rw [BitVec.ofInt_natCast, BitVec.toNat_ofNat]; exact Nat.mod_eq_of_lt (by omega)
theorem and8 (a b : Nat) (ha : a < 256) (hb : b < 256) : bits .and .u8 (a : Int) (b : Int) = ((a &&& b : Nat) : Int) := by
 have hx : a &&& b < 2 ^ 8 := Nat.and_lt_two_pow _ (by omega)
 show IntKind.u8.wrap ((BitVec.ofInt 8 (a : Int) &&& BitVec.ofInt 8 (b : Int)).toNat : Int) = _
 rw [BitVec.toNat_and, ofInt8_nat a ha, ofInt8_nat b hb]
 show ((a &&& b : Nat) : Int) % 256 = _
 omega
set_option maxRecDepth 100000 in
theorem tga_and80 : ∀ v : Fin 256, (v.1 &&& 128 = 0 ↔ v.1 < 128) := by decide
theorem tga_top {v : Nat} (h : v < 256) : (bits .and .u8 (v : Int) 128 == 0) = decide (v < 128) := by
 rw [show (128 : Int) = ((128 : Nat) : Int) from rfl, and8 v 128 h (by decide), Bool.eq_iff_iff, beq_iff_eq, decide_eq_true_iff, ← tga_and80 ⟨v, h⟩]
 show ((v &&& 128 : Nat) : Int) = 0 ↔ v &&& 128 = 0
 omega
theorem tgaQb_of {s : ByteArray} {h : TgaHd} {a : Nat} (hc : TgaCol h.depth) (ha : a + h.size ≤ s.size) : tgaQb (s.extract a (a + h.size)) h.depth h.alpha = tgaQ s h a := by
 have hz := tgaKind_size hc
 have hsz : h.size = tgaEntry h.depth := by
  unfold TgaHd.size
  rcases hc with e | e | e | e <;> rw [e] <;> rfl
 have e1 : ecol (tgaKind h.depth : Int) (s.extract a (a + h.size)).data.toList = ecol (tgaKind h.depth : Int) (s.data.toList.drop a) := by
  rw [extract_list', Nat.add_sub_cancel_left]
  exact ecol_take (by rw [hz.1]; omega) (by rw [hz.1, hsz]; omega)
 unfold tgaQb tgaQ
 rw [e1]
 by_cases h16 : h.depth = 16
 ·have e2 : bat (s.extract a (a + h.size)) 1 = bat s (a + 1) := bat_extract s a h.size 1 (by unfold TgaHd.size; rw [h16]; decide)
  rw [e2]
 ·rw [if_neg (fun e => h16 e.1)]
  conv => rhs; rw [if_neg (fun e => h16 e.1)]
/-- a colour's boxes: the result's, the entry's -/
def Q0 (w : World) (q : Nat) : Prop := Blk w q 68 #[.int .u8 0, .int .u8 0, .int .u8 0, .int .u8 0]
theorem Q0.all {w : World} {q : Nat} (h : Q0 w q) : w.cell? ⟨q, 0, none⟩ = some (.int .u8 0) ∧ w.cell? ⟨q, 1, none⟩ = some (.int .u8 0) ∧ w.cell? ⟨q, 2, none⟩ = some (.int .u8 0) ∧ w.cell? ⟨q, 3, none⟩ = some (.int .u8 0) ∧ w.frozen? ⟨q, 0, none⟩ = false ∧ w.frozen? ⟨q, 1, none⟩ = false ∧ w.frozen? ⟨q, 2, none⟩ = false ∧ w.frozen? ⟨q, 3, none⟩ = false ∧ q < w.heap.size :=
 ⟨Blk.cell h 0, Blk.cell h 1, Blk.cell h 2, Blk.cell h 3, Blk.frozen h 0, Blk.frozen h 1, Blk.frozen h 2, Blk.frozen h 3, Blk.lt h⟩
set_option maxRecDepth 100000 in
set_option maxHeartbeats 4000000 in
theorem tgaColorC {b : ByteArray} {n al : Nat} {q : Qc} (hc : TgaCol n) (hb : tgaEntry n ≤ b.size) (hs : b.size ≤ 1073741824) (hq : tgaQb b n al = q) (w : World) :
  Calls Tryz.prog 171 #[.string b, .int .i64 (n : Int), .int .i64 (al : Int)] w fun e w' => e = .returned (.tuple #[q.v, .bool true]) ∧ Below w.heap.size w w' := by
 obtain ⟨hk, hz, hz4⟩ := tgaKind_size hc
 have HE := Lib.hid (fun w => entry_any b (tgaKind n : Int) w (by rw [hk]; omega) (by rw [hk]; omega) hs)
 have HK := Lib.hid (fun w => tgaKindC hc rfl w)
 obtain ⟨qe, hqe⟩ : ∃ qe, ecol (tgaKind n : Int) b.data.toList = qe := ⟨_, rfl⟩
 unfold tgaQb at hq
 rw [hqe] at HE hq
 unfold Qc.v at HE
 obtain ⟨k, hkk⟩ : ∃ k : Int, (tgaKind n : Int) = k := ⟨_, rfl⟩
 rw [hkk] at HE HK
 have I0 : Q0 (w.alloc (.cells #[.int .u8 0, .int .u8 0, .int .u8 0, .int .u8 0] 68)) w.heap.size := Blk.new _ _ _
 have B0 : Below w.heap.size w (w.alloc (.cells #[.int .u8 0, .int .u8 0, .int .u8 0, .int .u8 0] 68)) := (Below.refl _ _).alloc (Nat.le_refl _) _
 have HI := Lib.hid (And.intro I0 B0)
 have HQ := Lib.hid hq
 clear hk hz hz4 hqe hkk hq I0 B0
 have hb1 : tgaEntry n ≤ b.size := hb
 clear hb
 rcases hc with rfl | rfl | rfl | rfl
 ·have hq2 := HQ.out
  rw [if_neg (by omega), if_neg (by omega)] at hq2
  subst hq2
  go_enter Tryz.func171, Tryz.ntmps171
  go_upto_region 4 with (first
   | (go_at_call 196; refine (HE.out _).mono ?_; rintro e w4 ⟨rfl, b4⟩)
   | (go_at_call 174; refine (HK.out _).mono ?_; rintro e w3 ⟨rfl, rfl⟩))
  have Q4 : Q0 w4 w.heap.size := Blk.below HI.out.1 b4 (Blk.lt HI.out.1)
  have B5 : Below w.heap.size w (w4.alloc (.cells #[.int .u8 (qe.r.toNat : Int), .int .u8 (qe.g.toNat : Int), .int .u8 (qe.b.toNat : Int), .int .u8 (qe.a.toNat : Int)] 68)) := (below_next HI.out.2 b4).alloc (Nat.le_of_lt (Blk.lt Q4)) _
  have Q5 : Q0 (w4.alloc (.cells #[.int .u8 (qe.r.toNat : Int), .int .u8 (qe.g.toNat : Int), .int .u8 (qe.b.toNat : Int), .int .u8 (qe.a.toNat : Int)] 68)) w.heap.size := Blk.alloc Q4 _
  have C5 : Blk (w4.alloc (.cells #[.int .u8 (qe.r.toNat : Int), .int .u8 (qe.g.toNat : Int), .int .u8 (qe.b.toNat : Int), .int .u8 (qe.a.toNat : Int)] 68)) w4.heap.size 68 #[.int .u8 (qe.r.toNat : Int), .int .u8 (qe.g.toNat : Int), .int .u8 (qe.b.toNat : Int), .int .u8 (qe.a.toNat : Int)] := Blk.new _ _ _
  have hlt := Blk.lt Q4
  generalize w4.alloc (.cells #[.int .u8 (qe.r.toNat : Int), .int .u8 (qe.g.toNat : Int), .int .u8 (qe.b.toNat : Int), .int .u8 (qe.a.toNat : Int)] 68) = w5 at B5 Q5 C5 ⊢
  generalize w4.heap.size = q8 at C5 hlt ⊢
  have hne : w.heap.size ≠ q8 := by omega
  have hne2 : q8 ≠ w.heap.size := by omega
  obtain ⟨c0, c1, c2, c3, z0, z1, z2, z3, cl⟩ := Q5.all
  have d0 := Blk.cell C5 0
  have d1 := Blk.cell C5 1
  have d2 := Blk.cell C5 2
  have d3 := Blk.cell C5 3
  have v3 := Blk.frozen C5 3
  have vl := Blk.lt C5
  have HB5 := Lib.hid B5
  have h8 : w.heap.size ≤ q8 := by omega
  clear b4 Q4 Q5 C5 B5
  go_wp2_with fail
  exact bodyPost_ret (v := .tuple #[.agg #[.int .u8 (qe.r.toNat : Int), .int .u8 (qe.g.toNat : Int), .int .u8 (qe.b.toNat : Int), .int .u8 (qe.a.toNat : Int)], .bool true]) (by simp [results, Tryz.results171, go_sem, hne, hne2, c0, c1, c2, c3, d0, d1, d2, d3]) rfl ⟨rfl, Below.st4 HB5.out (Nat.le_refl _)⟩
 ·have i1 : (1 : Int) < (b.size : Int) := by have : tgaEntry 16 = 2 := rfl; omega
  have n1 : 1 < b.size := by omega
  obtain ⟨v, hv⟩ : ∃ v, bat b 1 = v := ⟨_, rfl⟩
  have hvb := bat_lt b 1
  rw [hv] at hvb
  have g1 : b[1].toNat = v := by rw [← hv, bat_eq n1]
  have ht := tga_top hvb
  rw [hv] at HQ
  clear hv
  by_cases ha : al = 1
  ·have haI : (al : Int) = 1 := by omega
   by_cases hv8 : v < 128
   ·have hq2 := HQ.out
    rw [if_pos ⟨rfl, ha, hv8⟩] at hq2
    subst hq2
    rw [decide_eq_true hv8] at ht
    go_enter Tryz.func171, Tryz.ntmps171
    go_upto_region 4 with (first
     | (go_at_call 196; refine (HE.out _).mono ?_; rintro e w4 ⟨rfl, b4⟩)
     | (go_at_call 174; refine (HK.out _).mono ?_; rintro e w3 ⟨rfl, rfl⟩))
    have Q4 : Q0 w4 w.heap.size := Blk.below HI.out.1 b4 (Blk.lt HI.out.1)
    have B5 : Below w.heap.size w (w4.alloc (.cells #[.int .u8 (qe.r.toNat : Int), .int .u8 (qe.g.toNat : Int), .int .u8 (qe.b.toNat : Int), .int .u8 (qe.a.toNat : Int)] 68)) := (below_next HI.out.2 b4).alloc (Nat.le_of_lt (Blk.lt Q4)) _
    have Q5 : Q0 (w4.alloc (.cells #[.int .u8 (qe.r.toNat : Int), .int .u8 (qe.g.toNat : Int), .int .u8 (qe.b.toNat : Int), .int .u8 (qe.a.toNat : Int)] 68)) w.heap.size := Blk.alloc Q4 _
    have C5 : Blk (w4.alloc (.cells #[.int .u8 (qe.r.toNat : Int), .int .u8 (qe.g.toNat : Int), .int .u8 (qe.b.toNat : Int), .int .u8 (qe.a.toNat : Int)] 68)) w4.heap.size 68 #[.int .u8 (qe.r.toNat : Int), .int .u8 (qe.g.toNat : Int), .int .u8 (qe.b.toNat : Int), .int .u8 (qe.a.toNat : Int)] := Blk.new _ _ _
    have hlt := Blk.lt Q4
    generalize w4.alloc (.cells #[.int .u8 (qe.r.toNat : Int), .int .u8 (qe.g.toNat : Int), .int .u8 (qe.b.toNat : Int), .int .u8 (qe.a.toNat : Int)] 68) = w5 at B5 Q5 C5 ⊢
    generalize w4.heap.size = q8 at C5 hlt ⊢
    have hne : w.heap.size ≠ q8 := by omega
    have hne2 : q8 ≠ w.heap.size := by omega
    obtain ⟨c0, c1, c2, c3, z0, z1, z2, z3, cl⟩ := Q5.all
    have d0 := Blk.cell C5 0
    have d1 := Blk.cell C5 1
    have d2 := Blk.cell C5 2
    have d3 := Blk.cell C5 3
    have v3 := Blk.frozen C5 3
    have vl := Blk.lt C5
    have HB5 := Lib.hid B5
    have h8 : w.heap.size ≤ q8 := by omega
    clear b4 Q4 Q5 C5 B5
    go_wp2_with fail
    exact bodyPost_ret (v := .tuple #[.agg #[.int .u8 (qe.r.toNat : Int), .int .u8 (qe.g.toNat : Int), .int .u8 (qe.b.toNat : Int), .int .u8 0], .bool true]) (by simp [results, Tryz.results171, go_sem, hne, hne2, c0, c1, c2, c3, d0, d1, d2, d3]) rfl ⟨rfl, Below.st4 (below_set HB5.out h8) (Nat.le_refl _)⟩
   ·have hq2 := HQ.out
    rw [if_neg (fun e => hv8 e.2.2), if_neg (by omega)] at hq2
    subst hq2
    rw [decide_eq_false hv8] at ht
    go_enter Tryz.func171, Tryz.ntmps171
    go_upto_region 4 with (first
     | (go_at_call 196; refine (HE.out _).mono ?_; rintro e w4 ⟨rfl, b4⟩)
     | (go_at_call 174; refine (HK.out _).mono ?_; rintro e w3 ⟨rfl, rfl⟩))
    have Q4 : Q0 w4 w.heap.size := Blk.below HI.out.1 b4 (Blk.lt HI.out.1)
    have B5 : Below w.heap.size w (w4.alloc (.cells #[.int .u8 (qe.r.toNat : Int), .int .u8 (qe.g.toNat : Int), .int .u8 (qe.b.toNat : Int), .int .u8 (qe.a.toNat : Int)] 68)) := (below_next HI.out.2 b4).alloc (Nat.le_of_lt (Blk.lt Q4)) _
    have Q5 : Q0 (w4.alloc (.cells #[.int .u8 (qe.r.toNat : Int), .int .u8 (qe.g.toNat : Int), .int .u8 (qe.b.toNat : Int), .int .u8 (qe.a.toNat : Int)] 68)) w.heap.size := Blk.alloc Q4 _
    have C5 : Blk (w4.alloc (.cells #[.int .u8 (qe.r.toNat : Int), .int .u8 (qe.g.toNat : Int), .int .u8 (qe.b.toNat : Int), .int .u8 (qe.a.toNat : Int)] 68)) w4.heap.size 68 #[.int .u8 (qe.r.toNat : Int), .int .u8 (qe.g.toNat : Int), .int .u8 (qe.b.toNat : Int), .int .u8 (qe.a.toNat : Int)] := Blk.new _ _ _
    have hlt := Blk.lt Q4
    generalize w4.alloc (.cells #[.int .u8 (qe.r.toNat : Int), .int .u8 (qe.g.toNat : Int), .int .u8 (qe.b.toNat : Int), .int .u8 (qe.a.toNat : Int)] 68) = w5 at B5 Q5 C5 ⊢
    generalize w4.heap.size = q8 at C5 hlt ⊢
    have hne : w.heap.size ≠ q8 := by omega
    have hne2 : q8 ≠ w.heap.size := by omega
    obtain ⟨c0, c1, c2, c3, z0, z1, z2, z3, cl⟩ := Q5.all
    have d0 := Blk.cell C5 0
    have d1 := Blk.cell C5 1
    have d2 := Blk.cell C5 2
    have d3 := Blk.cell C5 3
    have v3 := Blk.frozen C5 3
    have vl := Blk.lt C5
    have HB5 := Lib.hid B5
    have h8 : w.heap.size ≤ q8 := by omega
    clear b4 Q4 Q5 C5 B5
    go_wp2_with fail
    exact bodyPost_ret (v := .tuple #[.agg #[.int .u8 (qe.r.toNat : Int), .int .u8 (qe.g.toNat : Int), .int .u8 (qe.b.toNat : Int), .int .u8 (qe.a.toNat : Int)], .bool true]) (by simp [results, Tryz.results171, go_sem, hne, hne2, c0, c1, c2, c3, d0, d1, d2, d3]) rfl ⟨rfl, Below.st4 HB5.out (Nat.le_refl _)⟩
  ·have haI : ¬ (al : Int) = 1 := by omega
   have hq2 := HQ.out
   rw [if_neg (fun e => ha e.2.1), if_neg (by omega)] at hq2
   subst hq2
   go_enter Tryz.func171, Tryz.ntmps171
   go_upto_region 4 with (first
    | (go_at_call 196; refine (HE.out _).mono ?_; rintro e w4 ⟨rfl, b4⟩)
    | (go_at_call 174; refine (HK.out _).mono ?_; rintro e w3 ⟨rfl, rfl⟩))
   have Q4 : Q0 w4 w.heap.size := Blk.below HI.out.1 b4 (Blk.lt HI.out.1)
   have B5 : Below w.heap.size w (w4.alloc (.cells #[.int .u8 (qe.r.toNat : Int), .int .u8 (qe.g.toNat : Int), .int .u8 (qe.b.toNat : Int), .int .u8 (qe.a.toNat : Int)] 68)) := (below_next HI.out.2 b4).alloc (Nat.le_of_lt (Blk.lt Q4)) _
   have Q5 : Q0 (w4.alloc (.cells #[.int .u8 (qe.r.toNat : Int), .int .u8 (qe.g.toNat : Int), .int .u8 (qe.b.toNat : Int), .int .u8 (qe.a.toNat : Int)] 68)) w.heap.size := Blk.alloc Q4 _
   have C5 : Blk (w4.alloc (.cells #[.int .u8 (qe.r.toNat : Int), .int .u8 (qe.g.toNat : Int), .int .u8 (qe.b.toNat : Int), .int .u8 (qe.a.toNat : Int)] 68)) w4.heap.size 68 #[.int .u8 (qe.r.toNat : Int), .int .u8 (qe.g.toNat : Int), .int .u8 (qe.b.toNat : Int), .int .u8 (qe.a.toNat : Int)] := Blk.new _ _ _
   have hlt := Blk.lt Q4
   generalize w4.alloc (.cells #[.int .u8 (qe.r.toNat : Int), .int .u8 (qe.g.toNat : Int), .int .u8 (qe.b.toNat : Int), .int .u8 (qe.a.toNat : Int)] 68) = w5 at B5 Q5 C5 ⊢
   generalize w4.heap.size = q8 at C5 hlt ⊢
   have hne : w.heap.size ≠ q8 := by omega
   have hne2 : q8 ≠ w.heap.size := by omega
   obtain ⟨c0, c1, c2, c3, z0, z1, z2, z3, cl⟩ := Q5.all
   have d0 := Blk.cell C5 0
   have d1 := Blk.cell C5 1
   have d2 := Blk.cell C5 2
   have d3 := Blk.cell C5 3
   have v3 := Blk.frozen C5 3
   have vl := Blk.lt C5
   have HB5 := Lib.hid B5
   have h8 : w.heap.size ≤ q8 := by omega
   clear b4 Q4 Q5 C5 B5
   go_wp2_with fail
   exact bodyPost_ret (v := .tuple #[.agg #[.int .u8 (qe.r.toNat : Int), .int .u8 (qe.g.toNat : Int), .int .u8 (qe.b.toNat : Int), .int .u8 (qe.a.toNat : Int)], .bool true]) (by simp [results, Tryz.results171, go_sem, hne, hne2, c0, c1, c2, c3, d0, d1, d2, d3]) rfl ⟨rfl, Below.st4 HB5.out (Nat.le_refl _)⟩
 ·have hq2 := HQ.out
  rw [if_neg (by omega), if_neg (by omega)] at hq2
  subst hq2
  go_enter Tryz.func171, Tryz.ntmps171
  go_upto_region 4 with (first
   | (go_at_call 196; refine (HE.out _).mono ?_; rintro e w4 ⟨rfl, b4⟩)
   | (go_at_call 174; refine (HK.out _).mono ?_; rintro e w3 ⟨rfl, rfl⟩))
  have Q4 : Q0 w4 w.heap.size := Blk.below HI.out.1 b4 (Blk.lt HI.out.1)
  have B5 : Below w.heap.size w (w4.alloc (.cells #[.int .u8 (qe.r.toNat : Int), .int .u8 (qe.g.toNat : Int), .int .u8 (qe.b.toNat : Int), .int .u8 (qe.a.toNat : Int)] 68)) := (below_next HI.out.2 b4).alloc (Nat.le_of_lt (Blk.lt Q4)) _
  have Q5 : Q0 (w4.alloc (.cells #[.int .u8 (qe.r.toNat : Int), .int .u8 (qe.g.toNat : Int), .int .u8 (qe.b.toNat : Int), .int .u8 (qe.a.toNat : Int)] 68)) w.heap.size := Blk.alloc Q4 _
  have C5 : Blk (w4.alloc (.cells #[.int .u8 (qe.r.toNat : Int), .int .u8 (qe.g.toNat : Int), .int .u8 (qe.b.toNat : Int), .int .u8 (qe.a.toNat : Int)] 68)) w4.heap.size 68 #[.int .u8 (qe.r.toNat : Int), .int .u8 (qe.g.toNat : Int), .int .u8 (qe.b.toNat : Int), .int .u8 (qe.a.toNat : Int)] := Blk.new _ _ _
  have hlt := Blk.lt Q4
  generalize w4.alloc (.cells #[.int .u8 (qe.r.toNat : Int), .int .u8 (qe.g.toNat : Int), .int .u8 (qe.b.toNat : Int), .int .u8 (qe.a.toNat : Int)] 68) = w5 at B5 Q5 C5 ⊢
  generalize w4.heap.size = q8 at C5 hlt ⊢
  have hne : w.heap.size ≠ q8 := by omega
  have hne2 : q8 ≠ w.heap.size := by omega
  obtain ⟨c0, c1, c2, c3, z0, z1, z2, z3, cl⟩ := Q5.all
  have d0 := Blk.cell C5 0
  have d1 := Blk.cell C5 1
  have d2 := Blk.cell C5 2
  have d3 := Blk.cell C5 3
  have v3 := Blk.frozen C5 3
  have vl := Blk.lt C5
  have HB5 := Lib.hid B5
  have h8 : w.heap.size ≤ q8 := by omega
  clear b4 Q4 Q5 C5 B5
  go_wp2_with fail
  exact bodyPost_ret (v := .tuple #[.agg #[.int .u8 (qe.r.toNat : Int), .int .u8 (qe.g.toNat : Int), .int .u8 (qe.b.toNat : Int), .int .u8 (qe.a.toNat : Int)], .bool true]) (by simp [results, Tryz.results171, go_sem, hne, hne2, c0, c1, c2, c3, d0, d1, d2, d3]) rfl ⟨rfl, Below.st4 HB5.out (Nat.le_refl _)⟩
 ·by_cases ha : al = 0
  ·have haI : (al : Int) = 0 := by omega
   have hq2 := HQ.out
   rw [if_neg (by omega), if_pos ⟨rfl, ha⟩] at hq2
   subst hq2
   go_enter Tryz.func171, Tryz.ntmps171
   go_upto_region 4 with (first
    | (go_at_call 196; refine (HE.out _).mono ?_; rintro e w4 ⟨rfl, b4⟩)
    | (go_at_call 174; refine (HK.out _).mono ?_; rintro e w3 ⟨rfl, rfl⟩))
   have Q4 : Q0 w4 w.heap.size := Blk.below HI.out.1 b4 (Blk.lt HI.out.1)
   have B5 : Below w.heap.size w (w4.alloc (.cells #[.int .u8 (qe.r.toNat : Int), .int .u8 (qe.g.toNat : Int), .int .u8 (qe.b.toNat : Int), .int .u8 (qe.a.toNat : Int)] 68)) := (below_next HI.out.2 b4).alloc (Nat.le_of_lt (Blk.lt Q4)) _
   have Q5 : Q0 (w4.alloc (.cells #[.int .u8 (qe.r.toNat : Int), .int .u8 (qe.g.toNat : Int), .int .u8 (qe.b.toNat : Int), .int .u8 (qe.a.toNat : Int)] 68)) w.heap.size := Blk.alloc Q4 _
   have C5 : Blk (w4.alloc (.cells #[.int .u8 (qe.r.toNat : Int), .int .u8 (qe.g.toNat : Int), .int .u8 (qe.b.toNat : Int), .int .u8 (qe.a.toNat : Int)] 68)) w4.heap.size 68 #[.int .u8 (qe.r.toNat : Int), .int .u8 (qe.g.toNat : Int), .int .u8 (qe.b.toNat : Int), .int .u8 (qe.a.toNat : Int)] := Blk.new _ _ _
   have hlt := Blk.lt Q4
   generalize w4.alloc (.cells #[.int .u8 (qe.r.toNat : Int), .int .u8 (qe.g.toNat : Int), .int .u8 (qe.b.toNat : Int), .int .u8 (qe.a.toNat : Int)] 68) = w5 at B5 Q5 C5 ⊢
   generalize w4.heap.size = q8 at C5 hlt ⊢
   have hne : w.heap.size ≠ q8 := by omega
   have hne2 : q8 ≠ w.heap.size := by omega
   obtain ⟨c0, c1, c2, c3, z0, z1, z2, z3, cl⟩ := Q5.all
   have d0 := Blk.cell C5 0
   have d1 := Blk.cell C5 1
   have d2 := Blk.cell C5 2
   have d3 := Blk.cell C5 3
   have v3 := Blk.frozen C5 3
   have vl := Blk.lt C5
   have HB5 := Lib.hid B5
   have h8 : w.heap.size ≤ q8 := by omega
   clear b4 Q4 Q5 C5 B5
   go_wp2_with fail
   exact bodyPost_ret (v := .tuple #[.agg #[.int .u8 (qe.r.toNat : Int), .int .u8 (qe.g.toNat : Int), .int .u8 (qe.b.toNat : Int), .int .u8 255], .bool true]) (by simp [results, Tryz.results171, go_sem, hne, hne2, c0, c1, c2, c3, d0, d1, d2, d3]) rfl ⟨rfl, Below.st4 (below_set HB5.out h8) (Nat.le_refl _)⟩
  ·have haI : ¬ (al : Int) = 0 := by omega
   have hq2 := HQ.out
   rw [if_neg (by omega), if_neg (fun e => ha e.2)] at hq2
   subst hq2
   go_enter Tryz.func171, Tryz.ntmps171
   go_upto_region 4 with (first
    | (go_at_call 196; refine (HE.out _).mono ?_; rintro e w4 ⟨rfl, b4⟩)
    | (go_at_call 174; refine (HK.out _).mono ?_; rintro e w3 ⟨rfl, rfl⟩))
   have Q4 : Q0 w4 w.heap.size := Blk.below HI.out.1 b4 (Blk.lt HI.out.1)
   have B5 : Below w.heap.size w (w4.alloc (.cells #[.int .u8 (qe.r.toNat : Int), .int .u8 (qe.g.toNat : Int), .int .u8 (qe.b.toNat : Int), .int .u8 (qe.a.toNat : Int)] 68)) := (below_next HI.out.2 b4).alloc (Nat.le_of_lt (Blk.lt Q4)) _
   have Q5 : Q0 (w4.alloc (.cells #[.int .u8 (qe.r.toNat : Int), .int .u8 (qe.g.toNat : Int), .int .u8 (qe.b.toNat : Int), .int .u8 (qe.a.toNat : Int)] 68)) w.heap.size := Blk.alloc Q4 _
   have C5 : Blk (w4.alloc (.cells #[.int .u8 (qe.r.toNat : Int), .int .u8 (qe.g.toNat : Int), .int .u8 (qe.b.toNat : Int), .int .u8 (qe.a.toNat : Int)] 68)) w4.heap.size 68 #[.int .u8 (qe.r.toNat : Int), .int .u8 (qe.g.toNat : Int), .int .u8 (qe.b.toNat : Int), .int .u8 (qe.a.toNat : Int)] := Blk.new _ _ _
   have hlt := Blk.lt Q4
   generalize w4.alloc (.cells #[.int .u8 (qe.r.toNat : Int), .int .u8 (qe.g.toNat : Int), .int .u8 (qe.b.toNat : Int), .int .u8 (qe.a.toNat : Int)] 68) = w5 at B5 Q5 C5 ⊢
   generalize w4.heap.size = q8 at C5 hlt ⊢
   have hne : w.heap.size ≠ q8 := by omega
   have hne2 : q8 ≠ w.heap.size := by omega
   obtain ⟨c0, c1, c2, c3, z0, z1, z2, z3, cl⟩ := Q5.all
   have d0 := Blk.cell C5 0
   have d1 := Blk.cell C5 1
   have d2 := Blk.cell C5 2
   have d3 := Blk.cell C5 3
   have v3 := Blk.frozen C5 3
   have vl := Blk.lt C5
   have HB5 := Lib.hid B5
   have h8 : w.heap.size ≤ q8 := by omega
   clear b4 Q4 Q5 C5 B5
   go_wp2_with fail
   exact bodyPost_ret (v := .tuple #[.agg #[.int .u8 (qe.r.toNat : Int), .int .u8 (qe.g.toNat : Int), .int .u8 (qe.b.toNat : Int), .int .u8 (qe.a.toNat : Int)], .bool true]) (by simp [results, Tryz.results171, go_sem, hne, hne2, c0, c1, c2, c3, d0, d1, d2, d3]) rfl ⟨rfl, Below.st4 HB5.out (Nat.le_refl _)⟩
end Go.Proofs.YtlehkgkomjojmaaGreat
