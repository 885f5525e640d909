/- A pixel of TGA's, the document's. -/
import Derived.Test.YtlehkgkomjojmaaGreatSq
import Derived.Test.YtlehkgkomjojmaaGreatGTgaP
import Derived.Deep.RegionHeld3
import Derived.Deep.CutRange
namespace Go.Proofs.YtlehkgkomjojmaaGreat
open Go.RowKit
set_option linter.unusedVariables false
set_option linter.unusedSimpArgs false

theorem Blk.st4Q {w : World} {g n : Nat} {t : TypeId} {cs : Array Value} {a b c d : Int} (h : Blk w g t cs) (hb : g ≠ n) : Blk (st4 w n a b c d) g t cs :=
 Blk.far (Blk.far (Blk.far (Blk.far h (p := ⟨n, 0, none⟩) hb _) (p := ⟨n, 1, none⟩) hb _) (p := ⟨n, 2, none⟩) hb _) (p := ⟨n, 3, none⟩) hb _
/-- a row of colours that is read alone -/
def RowM (w : World) (v : Value) (M : List Qc) : Prop := (v = .slice none 0 0 ∧ M = []) ∨ ∃ g cap, v = .slice (some ⟨g, 0, none⟩) M.length cap ∧ g < w.heap.size ∧ QAt w g 0 M
theorem RowM.below {w w' : World} {v : Value} {M : List Qc} (h : RowM w v M) (b : Below w.heap.size w w') : RowM w' v M := by
 rcases h with h | ⟨g, cap, h1, h2, h3⟩
 ·exact .inl h
 ·exact .inr ⟨g, cap, h1, Nat.lt_of_lt_of_le h2 b.size, h3.below b⟩
theorem RowM.of {w : World} {base : Nat} {v : Value} {M : List Qc} (h : OwnsQ w base v M) : RowM w v M := by
 rcases h.form with ⟨h1, h2⟩ | ⟨g, cap, h1, _, h3, _, h5⟩
 ·exact .inl ⟨h1, h2⟩
 ·exact .inr ⟨g, cap, h1, h3, h5⟩
def tHdD (h : TgaHd) (mi : Int) : Array Value := #[.int .i64 (h.name : Int), .int .i64 mi, .int .i64 (h.typ : Int), .int .i64 (h.first : Int), .int .i64 (h.count : Int), .int .i64 (h.entry : Int), .int .i64 (h.W : Int), .int .i64 (h.H : Int), .int .i64 (h.depth : Int), .int .i64 (h.alpha : Int), .bool h.left, .bool h.top, .int .i64 0, .int .i64 0]
theorem tgaQ_from {s : ByteArray} {h : TgaHd} {a : Nat} (hc : TgaCol h.depth) (ha : a + h.size ≤ s.size) : tgaQb (s.extract a s.size) h.depth h.alpha = tgaQ s h a ∧ tgaEntry h.depth ≤ (s.extract a s.size).size := by
 have hsz : h.size = tgaEntry h.depth := by
  unfold TgaHd.size
  rcases hc with e | e | e | e <;> rw [e] <;> rfl
 have e1 : (s.extract a s.size).data.toList = s.data.toList.drop a := by
  rw [extract_list', List.take_of_length_le (by rw [List.length_drop, list_len]; omega)]
 have e2 : bat (s.extract a s.size) 1 = bat s (a + 1) := by
  unfold bat nats
  rw [e1]
  simp only [List.getD_eq_getElem?_getD, List.getElem?_map, List.getElem?_drop]
 refine ⟨?_, ?_⟩
 ·unfold tgaQb tgaQ
  rw [e1, e2]
 ·rw [ByteArray.size_extract]
  omega
/-- what a pixel's reading tells -/
def RPixPost (w w' : World) (s : ByteArray) (h : TgaHd) (M : List Qc) (a : Nat) (e : Ending) : Prop :=
 Below w.heap.size w w' ∧ ((s.size < a + h.size ∧ e = .returned (.tuple #[Qc.v ⟨0, 0, 0, 0⟩, .int .i64 1, .int .i64 (s.size : Int)])) ∨
  (a + h.size ≤ s.size ∧ tgaPixel s h M a = .inl (2, a) ∧ e = .returned (.tuple #[Qc.v ⟨0, 0, 0, 0⟩, .int .i64 2, .int .i64 (a : Int)])) ∨
  (a + h.size ≤ s.size ∧ ∃ q, tgaPixel s h M a = .inr q ∧ e = .returned (.tuple #[q.v, .int .i64 0, .int .i64 0])))
set_option maxRecDepth 100000 in
set_option maxHeartbeats 4000000 in
theorem refTgaPix_short {w : World} {s : ByteArray} {h : TgaHd} {M : List Qc} {a : Nat} {v : Value} (hd : h.depth = 8 ∨ TgaCol h.depth) (hsh : s.size < a + h.size) (hs : s.size ≤ 100000) (ha : a ≤ s.size) :
  Calls Tryz.prog 129 #[.string s, .int .i64 (a : Int), tRV h, v] w fun e w' => RPixPost w w' s h M a e := by
 obtain ⟨z, hz⟩ : ∃ z, h.size = z := ⟨_, rfl⟩
 have hzB : z ≤ 4 := by rw [← hz]; unfold TgaHd.size; unfold TgaCol at hd; omega
 have HSZ := Lib.hid (fun w => refTgaSize hd hz w)
 unfold tRV tRdV at HSZ ⊢
 have HZ := Lib.hid hz
 have hsI : (s.size : Int) ≤ 100000 := by omega
 have haI : (a : Int) ≤ (s.size : Int) := by omega
 have hzI : (z : Int) ≤ 4 := by omega
 have hI : (s.size : Int) < (a : Int) + (z : Int) := by omega
 have HSH := Lib.hid hsh
 clear hsh
 generalize (if h.map = true then (1 : Int) else 0) = mi at HSZ ⊢
 have H1 : Blk ((w.alloc (.cells #[.int .i64 (h.name : Int), .int .i64 mi, .int .i64 (h.typ : Int), .int .i64 (h.first : Int), .int .i64 (h.count : Int), .int .i64 (h.entry : Int), .int .i64 (h.W : Int), .int .i64 (h.H : Int), .int .i64 (h.depth : Int), .int .i64 (h.alpha : Int), .bool h.left, .bool h.top, .int .i64 0, .int .i64 0] 133)).alloc (.cells #[.int .u8 0, .int .u8 0, .int .u8 0, .int .u8 0] 68)) w.heap.size 133 (tHdD h mi) := Blk.alloc (Blk.new _ _ _) _
 have C1 : Q0 ((w.alloc (.cells #[.int .i64 (h.name : Int), .int .i64 mi, .int .i64 (h.typ : Int), .int .i64 (h.first : Int), .int .i64 (h.count : Int), .int .i64 (h.entry : Int), .int .i64 (h.W : Int), .int .i64 (h.H : Int), .int .i64 (h.depth : Int), .int .i64 (h.alpha : Int), .bool h.left, .bool h.top, .int .i64 0, .int .i64 0] 133)).alloc (.cells #[.int .u8 0, .int .u8 0, .int .u8 0, .int .u8 0] 68)) (w.heap.size + 1) := Blk.new_at _ _ _ (by simp)
 have B1 : Below w.heap.size w ((w.alloc (.cells #[.int .i64 (h.name : Int), .int .i64 mi, .int .i64 (h.typ : Int), .int .i64 (h.first : Int), .int .i64 (h.count : Int), .int .i64 (h.entry : Int), .int .i64 (h.W : Int), .int .i64 (h.H : Int), .int .i64 (h.depth : Int), .int .i64 (h.alpha : Int), .bool h.left, .bool h.top, .int .i64 0, .int .i64 0] 133)).alloc (.cells #[.int .u8 0, .int .u8 0, .int .u8 0, .int .u8 0] 68)) := ((Below.refl _ _).alloc (Nat.le_refl _) _).alloc (by simp) _
 have hcl : w.heap.size ≤ w.heap.size + 1 := by omega
 clear hz
 go_enter Tryz.func129, Tryz.ntmps129
 go_upto_region 1 with fail
 generalize ((w.alloc (.cells #[.int .i64 (h.name : Int), .int .i64 mi, .int .i64 (h.typ : Int), .int .i64 (h.first : Int), .int .i64 (h.count : Int), .int .i64 (h.entry : Int), .int .i64 (h.W : Int), .int .i64 (h.H : Int), .int .i64 (h.depth : Int), .int .i64 (h.alpha : Int), .bool h.left, .bool h.top, .int .i64 0, .int .i64 0] 133)).alloc (.cells #[.int .u8 0, .int .u8 0, .int .u8 0, .int .u8 0] 68)) = w1 at H1 C1 B1 ⊢
 have c0 : w1.cell? ⟨w.heap.size, 0, none⟩ = some (.int .i64 (h.name : Int)) := Blk.cell H1 0
 have c1 : w1.cell? ⟨w.heap.size, 1, none⟩ = some (.int .i64 mi) := Blk.cell H1 1
 have c2 : w1.cell? ⟨w.heap.size, 2, none⟩ = some (.int .i64 (h.typ : Int)) := Blk.cell H1 2
 have c3 : w1.cell? ⟨w.heap.size, 3, none⟩ = some (.int .i64 (h.first : Int)) := Blk.cell H1 3
 have c4 : w1.cell? ⟨w.heap.size, 4, none⟩ = some (.int .i64 (h.count : Int)) := Blk.cell H1 4
 have c5 : w1.cell? ⟨w.heap.size, 5, none⟩ = some (.int .i64 (h.entry : Int)) := Blk.cell H1 5
 have c6 : w1.cell? ⟨w.heap.size, 6, none⟩ = some (.int .i64 (h.W : Int)) := Blk.cell H1 6
 have c7 : w1.cell? ⟨w.heap.size, 7, none⟩ = some (.int .i64 (h.H : Int)) := Blk.cell H1 7
 have c8 : w1.cell? ⟨w.heap.size, 8, none⟩ = some (.int .i64 (h.depth : Int)) := Blk.cell H1 8
 have c9 : w1.cell? ⟨w.heap.size, 9, none⟩ = some (.int .i64 (h.alpha : Int)) := Blk.cell H1 9
 have c10 : w1.cell? ⟨w.heap.size, 10, none⟩ = some (.bool h.left) := Blk.cell H1 10
 have c11 : w1.cell? ⟨w.heap.size, 11, none⟩ = some (.bool h.top) := Blk.cell H1 11
 have c12 : w1.cell? ⟨w.heap.size, 12, none⟩ = some (.int .i64 0) := Blk.cell H1 12
 have c13 : w1.cell? ⟨w.heap.size, 13, none⟩ = some (.int .i64 0) := Blk.cell H1 13
 go_wp2_with (go_at_call 128; refine (HSZ.out _).mono ?_; rintro e w2 ⟨rfl, b2⟩; have H2 : Blk w2 w.heap.size 133 (tHdD h mi) := Blk.below H1 b2 (Blk.lt H1); have C2 : Q0 w2 (w.heap.size + 1) := Blk.below C1 b2 (Blk.lt C1); have B2 := below_next B1 b2; obtain ⟨q0, q1, q2, q3, x0, x1, x2, x3, ql⟩ := C2.all)
 exact bodyPost_ret (v := .tuple #[Qc.v ⟨0, 0, 0, 0⟩, .int .i64 1, .int .i64 (s.size : Int)]) (by simp [results, Tryz.results129, go_sem, q0, q1, q2, q3, Qc.v]) rfl ⟨Below.st4 B2 hcl, .inl ⟨HSH.out, rfl⟩⟩
set_option maxRecDepth 100000 in
set_option maxHeartbeats 4000000 in
theorem refTgaPix_col {w : World} {s : ByteArray} {h : TgaHd} {M : List Qc} {a : Nat} {v : Value} (hd : h.depth = 8 ∨ TgaCol h.depth) (hc : TgaCol h.depth) (h8 : h.depth ≠ 8) (hle : a + h.size ≤ s.size) (hs : s.size ≤ 100000) (ha : a ≤ s.size) :
  Calls Tryz.prog 129 #[.string s, .int .i64 (a : Int), tRV h, v] w fun e w' => RPixPost w w' s h M a e := by
 obtain ⟨z, hz⟩ : ∃ z, h.size = z := ⟨_, rfl⟩
 have hzB : z ≤ 4 := by rw [← hz]; unfold TgaHd.size; unfold TgaCol at hd; omega
 have HSZ := Lib.hid (fun w => refTgaSize hd hz w)
 unfold tRV tRdV at HSZ ⊢
 have HZ := Lib.hid hz
 have hsI : (s.size : Int) ≤ 100000 := by omega
 have haI : (a : Int) ≤ (s.size : Int) := by omega
 have hzI : (z : Int) ≤ 4 := by omega
 have hI : ¬ (s.size : Int) < (a : Int) + (z : Int) := by omega
 have HLE := Lib.hid hle
 have HQF := Lib.hid (tgaQ_from hc hle)
 obtain ⟨q, hq⟩ : ∃ q, tgaQ s h a = q := ⟨_, rfl⟩
 have HQ := Lib.hid hq
 have HCO := Lib.hid hc
 have H8 := Lib.hid h8
 have x8 : ((h.depth : Int) != 8) = true := bne_iff_ne.2 (by omega)
 clear hle hq hc h8
 generalize (if h.map = true then (1 : Int) else 0) = mi at HSZ ⊢
 have H1 : Blk ((w.alloc (.cells #[.int .i64 (h.name : Int), .int .i64 mi, .int .i64 (h.typ : Int), .int .i64 (h.first : Int), .int .i64 (h.count : Int), .int .i64 (h.entry : Int), .int .i64 (h.W : Int), .int .i64 (h.H : Int), .int .i64 (h.depth : Int), .int .i64 (h.alpha : Int), .bool h.left, .bool h.top, .int .i64 0, .int .i64 0] 133)).alloc (.cells #[.int .u8 0, .int .u8 0, .int .u8 0, .int .u8 0] 68)) w.heap.size 133 (tHdD h mi) := Blk.alloc (Blk.new _ _ _) _
 have C1 : Q0 ((w.alloc (.cells #[.int .i64 (h.name : Int), .int .i64 mi, .int .i64 (h.typ : Int), .int .i64 (h.first : Int), .int .i64 (h.count : Int), .int .i64 (h.entry : Int), .int .i64 (h.W : Int), .int .i64 (h.H : Int), .int .i64 (h.depth : Int), .int .i64 (h.alpha : Int), .bool h.left, .bool h.top, .int .i64 0, .int .i64 0] 133)).alloc (.cells #[.int .u8 0, .int .u8 0, .int .u8 0, .int .u8 0] 68)) (w.heap.size + 1) := Blk.new_at _ _ _ (by simp)
 have B1 : Below w.heap.size w ((w.alloc (.cells #[.int .i64 (h.name : Int), .int .i64 mi, .int .i64 (h.typ : Int), .int .i64 (h.first : Int), .int .i64 (h.count : Int), .int .i64 (h.entry : Int), .int .i64 (h.W : Int), .int .i64 (h.H : Int), .int .i64 (h.depth : Int), .int .i64 (h.alpha : Int), .bool h.left, .bool h.top, .int .i64 0, .int .i64 0] 133)).alloc (.cells #[.int .u8 0, .int .u8 0, .int .u8 0, .int .u8 0] 68)) := ((Below.refl _ _).alloc (Nat.le_refl _) _).alloc (by simp) _
 have hcl : w.heap.size ≤ w.heap.size + 1 := by omega
 clear hz
 go_enter Tryz.func129, Tryz.ntmps129
 go_upto_region 1 with fail
 generalize ((w.alloc (.cells #[.int .i64 (h.name : Int), .int .i64 mi, .int .i64 (h.typ : Int), .int .i64 (h.first : Int), .int .i64 (h.count : Int), .int .i64 (h.entry : Int), .int .i64 (h.W : Int), .int .i64 (h.H : Int), .int .i64 (h.depth : Int), .int .i64 (h.alpha : Int), .bool h.left, .bool h.top, .int .i64 0, .int .i64 0] 133)).alloc (.cells #[.int .u8 0, .int .u8 0, .int .u8 0, .int .u8 0] 68)) = w1 at H1 C1 B1 ⊢
 have c0 : w1.cell? ⟨w.heap.size, 0, none⟩ = some (.int .i64 (h.name : Int)) := Blk.cell H1 0
 have c1 : w1.cell? ⟨w.heap.size, 1, none⟩ = some (.int .i64 mi) := Blk.cell H1 1
 have c2 : w1.cell? ⟨w.heap.size, 2, none⟩ = some (.int .i64 (h.typ : Int)) := Blk.cell H1 2
 have c3 : w1.cell? ⟨w.heap.size, 3, none⟩ = some (.int .i64 (h.first : Int)) := Blk.cell H1 3
 have c4 : w1.cell? ⟨w.heap.size, 4, none⟩ = some (.int .i64 (h.count : Int)) := Blk.cell H1 4
 have c5 : w1.cell? ⟨w.heap.size, 5, none⟩ = some (.int .i64 (h.entry : Int)) := Blk.cell H1 5
 have c6 : w1.cell? ⟨w.heap.size, 6, none⟩ = some (.int .i64 (h.W : Int)) := Blk.cell H1 6
 have c7 : w1.cell? ⟨w.heap.size, 7, none⟩ = some (.int .i64 (h.H : Int)) := Blk.cell H1 7
 have c8 : w1.cell? ⟨w.heap.size, 8, none⟩ = some (.int .i64 (h.depth : Int)) := Blk.cell H1 8
 have c9 : w1.cell? ⟨w.heap.size, 9, none⟩ = some (.int .i64 (h.alpha : Int)) := Blk.cell H1 9
 have c10 : w1.cell? ⟨w.heap.size, 10, none⟩ = some (.bool h.left) := Blk.cell H1 10
 have c11 : w1.cell? ⟨w.heap.size, 11, none⟩ = some (.bool h.top) := Blk.cell H1 11
 have c12 : w1.cell? ⟨w.heap.size, 12, none⟩ = some (.int .i64 0) := Blk.cell H1 12
 have c13 : w1.cell? ⟨w.heap.size, 13, none⟩ = some (.int .i64 0) := Blk.cell H1 13
 go_upto_region 3 with (go_at_call 128; refine (HSZ.out _).mono ?_; rintro e w2 ⟨rfl, b2⟩; have H2 : Blk w2 w.heap.size 133 (tHdD h mi) := Blk.below H1 b2 (Blk.lt H1); have C2 : Q0 w2 (w.heap.size + 1) := Blk.below C1 b2 (Blk.lt C1); have B2 := below_next B1 b2; obtain ⟨q0, q1, q2, q3, x0, x1, x2, x3, ql⟩ := C2.all)
 clear c0
 clear c1
 clear c2
 clear c3
 clear c4
 clear c5
 clear c6
 clear c7
 clear c8
 clear c9
 clear c10
 clear c11
 clear c12
 clear c13
 have c8 : w2.cell? ⟨w.heap.size, 8, none⟩ = some (.int .i64 (h.depth : Int)) := Blk.cell H2 8
 go_upto_region 4 with fail
 have H3 := Blk.drew H2
 have C3 : Q0 w2.drew (w.heap.size + 1) := Blk.drew C2
 have B3 := B2.drew
 have d8 : w2.drew.cell? ⟨w.heap.size, 8, none⟩ = some (.int .i64 (h.depth : Int)) := Blk.cell H3 8
 have d9 : w2.drew.cell? ⟨w.heap.size, 9, none⟩ = some (.int .i64 (h.alpha : Int)) := Blk.cell H3 9
 refine wp_region_held_drew (S := (fun w9 => w9.cell? ⟨w.heap.size, 8, none⟩ = some (.int .i64 (h.depth : Int)) ∧ w9.cell? ⟨w.heap.size, 9, none⟩ = some (.int .i64 (h.alpha : Int)))) (by kernel_rfl) ⟨d8, d9⟩ (fun hHeld => ?_)
 generalize w2.drew = w3 at H3 C3 B3 d8 d9 hHeld ⊢
 clear q0 q1 q2 q3 x0 x1 x2 x3 ql
 refine tk 0 ?_
 (try simp only [sps])
 refine tk 1 ?_
 (try simp only [sps])
 refine tk 2 ?_
 (try simp only [sps])
 refine tk 3 ?_
 (try simp only [sps])
 refine tk 4 ?_
 (try simp only [sps])
 refine tk 5 ?_
 (try simp only [sps])
 refine tk 6 ?_
 (try simp only [sps])
 refine rdy 7 (fun K hK => ?_)
 go_simp
 refine (refTgaColor (q := q) HCO.out HQF.out.2 (by rw [ByteArray.size_extract]; omega) (HQF.out.1.trans HQ.out) _).mono ?_
 unfold Qc.v
 rintro e w4 ⟨rfl, b4⟩
 have C4 : Q0 w4 (w.heap.size + 1) := Blk.below C3 b4 (Blk.lt C3)
 have B4 := below_next B3 b4
 have H4 : Blk w4 w.heap.size 133 (tHdD h mi) := Blk.below H3 b4 (Blk.lt H3)
 obtain ⟨q0, q1, q2, q3, x0, x1, x2, x3, ql⟩ := C4.all
 refine hK.out _ _ ⟨Blk.cell H4 8, Blk.cell H4 9⟩ ?_
 clear hK K hHeld
 intro hHeld
 (try simp only [sps])
 refine rdy 8 (fun K hK => ?_)
 go_simp
 have H5 := Blk.st4Q (n := w.heap.size + 1) (a := (q.r.toNat : Int)) (b := (q.g.toNat : Int)) (c := (q.b.toNat : Int)) (d := (q.a.toNat : Int)) H4 (by omega)
 refine hK.out _ _ ⟨Blk.cell H5 8, Blk.cell H5 9⟩ ?_
 clear hK K hHeld
 intro hHeld
 (try simp only [sps])
 refine tk 9 ?_
 (try simp only [sps])
 refine tk 10 ?_
 (try simp only [sps])
 refine wpAnyH_done (by kernel_rfl) ?_ _
 (try simp only [sps])
 go_wp2_with fail
 exact bodyPost_ret (v := .tuple #[q.v, .int .i64 0, .int .i64 0]) (by simp [results, Tryz.results129, go_sem, q0, q1, q2, q3, Qc.v]) rfl ⟨Below.st4 B4 hcl, .inr (.inr ⟨HLE.out, q, by unfold tgaPixel; rw [if_pos H8.out, HQ.out], rfl⟩)⟩
set_option maxRecDepth 100000 in
set_option maxHeartbeats 4000000 in
theorem refTgaPix_gray {w : World} {s : ByteArray} {h : TgaHd} {M : List Qc} {a : Nat} {v : Value} (hd : h.depth = 8 ∨ TgaCol h.depth) (h8 : h.depth = 8) (h3 : h.typ = 3 ∨ h.typ = 11) (hle : a + h.size ≤ s.size) (hs : s.size ≤ 100000) (ha : a ≤ s.size) :
  Calls Tryz.prog 129 #[.string s, .int .i64 (a : Int), tRV h, v] w fun e w' => RPixPost w w' s h M a e := by
 obtain ⟨z, hz⟩ : ∃ z, h.size = z := ⟨_, rfl⟩
 have hzB : z ≤ 4 := by rw [← hz]; unfold TgaHd.size; unfold TgaCol at hd; omega
 have HSZ := Lib.hid (fun w => refTgaSize hd hz w)
 unfold tRV tRdV at HSZ ⊢
 have HZ := Lib.hid hz
 have hsI : (s.size : Int) ≤ 100000 := by omega
 have haI : (a : Int) ≤ (s.size : Int) := by omega
 have hzI : (z : Int) ≤ 4 := by omega
 have hI : ¬ (s.size : Int) < (a : Int) + (z : Int) := by omega
 have HLE := Lib.hid hle
 have hz1 : z = 1 := by rw [← hz]; unfold TgaHd.size; rw [h8]
 have x8 : ((h.depth : Int) != 8) = false := by rw [h8]; rfl
 have na : a < s.size := by omega
 have ia : (a : Int) < (s.size : Int) := by omega
 obtain ⟨bv, hbv⟩ : ∃ bv, bat s a = bv := ⟨_, rfl⟩
 have hbB := bat_lt s a
 rw [hbv] at hbB
 have ga : s[a].toNat = bv := by rw [← bat_eq na]; exact hbv
 have wrb : IntKind.i64.wrap (bv : Int) = (bv : Int) := IntWalk.i64_in _ (by omega)
 have bvI : (bv : Int) < 256 := by omega
 have HBV := Lib.hid hbv
 have H8 := Lib.hid h8
 clear hle hbv h8
 have hnm : ¬ h.mapped := fun e => by have := (tgaMapped_iff h).2 e; omega
 have HNM := Lib.hid hnm
 obtain ⟨g3, hg3⟩ : ∃ g3, ((h.typ : Int) == 3) = g3 := ⟨_, rfl⟩
 obtain ⟨g11, hg11⟩ : ∃ g11, ((h.typ : Int) == 11) = g11 := ⟨_, rfl⟩
 have HG : Hid ((g3 = true) ∨ (g3 = false ∧ g11 = true)) := Lib.hid (by
  rw [← hg3, ← hg11]
  rcases h3 with e | e
  ·exact .inl (by rw [e]; rfl)
  ·exact .inr (by rw [e]; exact ⟨rfl, rfl⟩))
 clear hnm h3
 generalize (if h.map = true then (1 : Int) else 0) = mi at HSZ ⊢
 have H1 : Blk ((w.alloc (.cells #[.int .i64 (h.name : Int), .int .i64 mi, .int .i64 (h.typ : Int), .int .i64 (h.first : Int), .int .i64 (h.count : Int), .int .i64 (h.entry : Int), .int .i64 (h.W : Int), .int .i64 (h.H : Int), .int .i64 (h.depth : Int), .int .i64 (h.alpha : Int), .bool h.left, .bool h.top, .int .i64 0, .int .i64 0] 133)).alloc (.cells #[.int .u8 0, .int .u8 0, .int .u8 0, .int .u8 0] 68)) w.heap.size 133 (tHdD h mi) := Blk.alloc (Blk.new _ _ _) _
 have C1 : Q0 ((w.alloc (.cells #[.int .i64 (h.name : Int), .int .i64 mi, .int .i64 (h.typ : Int), .int .i64 (h.first : Int), .int .i64 (h.count : Int), .int .i64 (h.entry : Int), .int .i64 (h.W : Int), .int .i64 (h.H : Int), .int .i64 (h.depth : Int), .int .i64 (h.alpha : Int), .bool h.left, .bool h.top, .int .i64 0, .int .i64 0] 133)).alloc (.cells #[.int .u8 0, .int .u8 0, .int .u8 0, .int .u8 0] 68)) (w.heap.size + 1) := Blk.new_at _ _ _ (by simp)
 have B1 : Below w.heap.size w ((w.alloc (.cells #[.int .i64 (h.name : Int), .int .i64 mi, .int .i64 (h.typ : Int), .int .i64 (h.first : Int), .int .i64 (h.count : Int), .int .i64 (h.entry : Int), .int .i64 (h.W : Int), .int .i64 (h.H : Int), .int .i64 (h.depth : Int), .int .i64 (h.alpha : Int), .bool h.left, .bool h.top, .int .i64 0, .int .i64 0] 133)).alloc (.cells #[.int .u8 0, .int .u8 0, .int .u8 0, .int .u8 0] 68)) := ((Below.refl _ _).alloc (Nat.le_refl _) _).alloc (by simp) _
 have hcl : w.heap.size ≤ w.heap.size + 1 := by omega
 clear hz
 go_enter Tryz.func129, Tryz.ntmps129
 go_upto_region 1 with fail
 generalize ((w.alloc (.cells #[.int .i64 (h.name : Int), .int .i64 mi, .int .i64 (h.typ : Int), .int .i64 (h.first : Int), .int .i64 (h.count : Int), .int .i64 (h.entry : Int), .int .i64 (h.W : Int), .int .i64 (h.H : Int), .int .i64 (h.depth : Int), .int .i64 (h.alpha : Int), .bool h.left, .bool h.top, .int .i64 0, .int .i64 0] 133)).alloc (.cells #[.int .u8 0, .int .u8 0, .int .u8 0, .int .u8 0] 68)) = w1 at H1 C1 B1 ⊢
 have c0 : w1.cell? ⟨w.heap.size, 0, none⟩ = some (.int .i64 (h.name : Int)) := Blk.cell H1 0
 have c1 : w1.cell? ⟨w.heap.size, 1, none⟩ = some (.int .i64 mi) := Blk.cell H1 1
 have c2 : w1.cell? ⟨w.heap.size, 2, none⟩ = some (.int .i64 (h.typ : Int)) := Blk.cell H1 2
 have c3 : w1.cell? ⟨w.heap.size, 3, none⟩ = some (.int .i64 (h.first : Int)) := Blk.cell H1 3
 have c4 : w1.cell? ⟨w.heap.size, 4, none⟩ = some (.int .i64 (h.count : Int)) := Blk.cell H1 4
 have c5 : w1.cell? ⟨w.heap.size, 5, none⟩ = some (.int .i64 (h.entry : Int)) := Blk.cell H1 5
 have c6 : w1.cell? ⟨w.heap.size, 6, none⟩ = some (.int .i64 (h.W : Int)) := Blk.cell H1 6
 have c7 : w1.cell? ⟨w.heap.size, 7, none⟩ = some (.int .i64 (h.H : Int)) := Blk.cell H1 7
 have c8 : w1.cell? ⟨w.heap.size, 8, none⟩ = some (.int .i64 (h.depth : Int)) := Blk.cell H1 8
 have c9 : w1.cell? ⟨w.heap.size, 9, none⟩ = some (.int .i64 (h.alpha : Int)) := Blk.cell H1 9
 have c10 : w1.cell? ⟨w.heap.size, 10, none⟩ = some (.bool h.left) := Blk.cell H1 10
 have c11 : w1.cell? ⟨w.heap.size, 11, none⟩ = some (.bool h.top) := Blk.cell H1 11
 have c12 : w1.cell? ⟨w.heap.size, 12, none⟩ = some (.int .i64 0) := Blk.cell H1 12
 have c13 : w1.cell? ⟨w.heap.size, 13, none⟩ = some (.int .i64 0) := Blk.cell H1 13
 go_upto_region 3 with (go_at_call 128; refine (HSZ.out _).mono ?_; rintro e w2 ⟨rfl, b2⟩; have H2 : Blk w2 w.heap.size 133 (tHdD h mi) := Blk.below H1 b2 (Blk.lt H1); have C2 : Q0 w2 (w.heap.size + 1) := Blk.below C1 b2 (Blk.lt C1); have B2 := below_next B1 b2; obtain ⟨q0, q1, q2, q3, x0, x1, x2, x3, ql⟩ := C2.all)
 clear c0
 clear c1
 clear c2
 clear c3
 clear c4
 clear c5
 clear c6
 clear c7
 clear c8
 clear c9
 clear c10
 clear c11
 clear c12
 clear c13
 have c2 : w2.cell? ⟨w.heap.size, 2, none⟩ = some (.int .i64 (h.typ : Int)) := Blk.cell H2 2
 have c8 : w2.cell? ⟨w.heap.size, 8, none⟩ = some (.int .i64 (h.depth : Int)) := Blk.cell H2 8
 go_upto_region 6 with fail
 go_cut [44] from 37 to 44 (fun c44 wx => c44 = .bool true ∧ wx = w2)
 case first =>
  rcases HG.out with rfl | ⟨rfl, rfl⟩
  ·go_wp2_with fail
   go_meet
   case rel => exact ⟨rfl, rfl⟩
  ·go_wp2_with fail
   go_meet
   case rel => exact ⟨rfl, rfl⟩
 case rest =>
  obtain ⟨rfl, rfl⟩ := hcut
  go_upto_region 7 with fail
  have C3 : Q0 wc.drew (w.heap.size + 1) := Blk.drew C2
  have B3 := B2.drew
  refine wp_region_held_drew (S := (fun _ => True)) (by kernel_rfl) trivial (fun hHeld => ?_)
  generalize wc.drew = w3 at C3 B3 hHeld ⊢
  refine tk 0 ?_
  (try simp only [sps])
  refine tk 1 ?_
  (try simp only [sps])
  refine tk 2 ?_
  (try simp only [sps])
  refine tk 3 ?_
  (try simp only [sps])
  refine tk 4 ?_
  (try simp only [sps])
  refine tk 5 ?_
  (try simp only [sps])
  refine tk 6 ?_
  (try simp only [sps])
  refine tk 7 ?_
  (try simp only [sps])
  refine tk 8 ?_
  (try simp only [sps])
  refine tk 9 ?_
  (try simp only [sps])
  clear q0 q1 q2 q3 x0 x1 x2 x3 ql
  obtain ⟨q0, q1, q2, q3, x0, x1, x2, x3, ql⟩ := C3.all
  refine rdy 10 (fun K hK => ?_)
  go_simp
  refine hK.out _ _ trivial ?_
  clear hK K hHeld
  intro hHeld
  (try simp only [sps])
  refine tk 11 ?_
  (try simp only [sps])
  refine tk 12 ?_
  (try simp only [sps])
  refine wpAnyH_done (by kernel_rfl) ?_ _
  (try simp only [sps])
  go_wp2_with fail
  exact bodyPost_ret (v := .tuple #[.agg #[.int .u8 (bv : Int), .int .u8 (bv : Int), .int .u8 (bv : Int), .int .u8 255], .int .i64 0, .int .i64 0]) (by simp [results, Tryz.results129, go_sem, q0, q1, q2, q3, Qc.v]) rfl ⟨Below.st4 B3 hcl, .inr (.inr ⟨HLE.out, ⟨b8 s a, b8 s a, b8 s a, 255⟩, by unfold tgaPixel; rw [if_neg (fun e => e H8.out), if_pos HNM.out], by unfold Qc.v; rw [b8_int, HBV.out]; rfl⟩)⟩
set_option maxRecDepth 100000 in
set_option maxHeartbeats 4000000 in
theorem refTgaPix_in {w : World} {s : ByteArray} {h : TgaHd} {M : List Qc} {a : Nat} {g cap i : Nat} {q : Qc} (hd : h.depth = 8 ∨ TgaCol h.depth) (h8 : h.depth = 8) (hmm : h.mapped) (hf1 : h.first ≤ 65535) (hle : a + h.size ≤ s.size) (hg : g < w.heap.size) (hA : QAt w g 0 M) (hM : M.length ≤ 65535) (hfi : bat s a = h.first + i) (hq : M[i]? = some q) (hs : s.size ≤ 100000) (ha : a ≤ s.size) :
  Calls Tryz.prog 129 #[.string s, .int .i64 (a : Int), tRV h, .slice (some ⟨g, 0, none⟩) M.length cap] w fun e w' => RPixPost w w' s h M a e := by
 obtain ⟨z, hz⟩ : ∃ z, h.size = z := ⟨_, rfl⟩
 have hzB : z ≤ 4 := by rw [← hz]; unfold TgaHd.size; unfold TgaCol at hd; omega
 have HSZ := Lib.hid (fun w => refTgaSize hd hz w)
 unfold tRV tRdV at HSZ ⊢
 have HZ := Lib.hid hz
 have hsI : (s.size : Int) ≤ 100000 := by omega
 have haI : (a : Int) ≤ (s.size : Int) := by omega
 have hzI : (z : Int) ≤ 4 := by omega
 have hI : ¬ (s.size : Int) < (a : Int) + (z : Int) := by omega
 have HLE := Lib.hid hle
 have hz1 : z = 1 := by rw [← hz]; unfold TgaHd.size; rw [h8]
 have x8 : ((h.depth : Int) != 8) = false := by rw [h8]; rfl
 have na : a < s.size := by omega
 have ia : (a : Int) < (s.size : Int) := by omega
 obtain ⟨bv, hbv⟩ : ∃ bv, bat s a = bv := ⟨_, rfl⟩
 have hbB := bat_lt s a
 rw [hbv] at hbB
 have ga : s[a].toNat = bv := by rw [← bat_eq na]; exact hbv
 have wrb : IntKind.i64.wrap (bv : Int) = (bv : Int) := IntWalk.i64_in _ (by omega)
 have bvI : (bv : Int) < 256 := by omega
 have HBV := Lib.hid hbv
 have H8 := Lib.hid h8
 clear hle hbv h8
 have hnm : h.mapped := hmm
 have HNM := Lib.hid hnm
 have hty := (tgaMapped_iff h).2 hnm
 have x3 : ((h.typ : Int) == 3) = false := beq_eq_false_iff_ne.2 (by omega)
 have x11 : ((h.typ : Int) == 11) = false := beq_eq_false_iff_ne.2 (by omega)
 have hf1I : (h.first : Int) ≤ 65535 := by omega
 clear hnm hty hmm
 have hil : i < M.length := (List.getElem?_eq_some_iff.1 hq).1
 have y1 : ¬ (bv : Int) < (h.first : Int) := by have := HBV.out; omega
 have y2 : (bv : Int) - (h.first : Int) = (i : Int) := by have := HBV.out; omega
 have y3 : ¬ (M.length : Int) ≤ (i : Int) := by omega
 have y4 : (i : Int) < (M.length : Int) := by omega
 have HQ := Lib.hid hq
 have HFI := Lib.hid hfi
 have HAA := Lib.hid hA
 have HIL := Lib.hid hil
 obtain ⟨ml, hml⟩ : ∃ ml, M.length = ml := ⟨_, rfl⟩
 have HML := Lib.hid hml
 rw [hml] at y3 y4 ⊢
 clear hq hfi hA hil hM hml hf1
 generalize (if h.map = true then (1 : Int) else 0) = mi at HSZ ⊢
 have H1 : Blk ((w.alloc (.cells #[.int .i64 (h.name : Int), .int .i64 mi, .int .i64 (h.typ : Int), .int .i64 (h.first : Int), .int .i64 (h.count : Int), .int .i64 (h.entry : Int), .int .i64 (h.W : Int), .int .i64 (h.H : Int), .int .i64 (h.depth : Int), .int .i64 (h.alpha : Int), .bool h.left, .bool h.top, .int .i64 0, .int .i64 0] 133)).alloc (.cells #[.int .u8 0, .int .u8 0, .int .u8 0, .int .u8 0] 68)) w.heap.size 133 (tHdD h mi) := Blk.alloc (Blk.new _ _ _) _
 have C1 : Q0 ((w.alloc (.cells #[.int .i64 (h.name : Int), .int .i64 mi, .int .i64 (h.typ : Int), .int .i64 (h.first : Int), .int .i64 (h.count : Int), .int .i64 (h.entry : Int), .int .i64 (h.W : Int), .int .i64 (h.H : Int), .int .i64 (h.depth : Int), .int .i64 (h.alpha : Int), .bool h.left, .bool h.top, .int .i64 0, .int .i64 0] 133)).alloc (.cells #[.int .u8 0, .int .u8 0, .int .u8 0, .int .u8 0] 68)) (w.heap.size + 1) := Blk.new_at _ _ _ (by simp)
 have B1 : Below w.heap.size w ((w.alloc (.cells #[.int .i64 (h.name : Int), .int .i64 mi, .int .i64 (h.typ : Int), .int .i64 (h.first : Int), .int .i64 (h.count : Int), .int .i64 (h.entry : Int), .int .i64 (h.W : Int), .int .i64 (h.H : Int), .int .i64 (h.depth : Int), .int .i64 (h.alpha : Int), .bool h.left, .bool h.top, .int .i64 0, .int .i64 0] 133)).alloc (.cells #[.int .u8 0, .int .u8 0, .int .u8 0, .int .u8 0] 68)) := ((Below.refl _ _).alloc (Nat.le_refl _) _).alloc (by simp) _
 have hcl : w.heap.size ≤ w.heap.size + 1 := by omega
 clear hz
 go_enter Tryz.func129, Tryz.ntmps129
 go_upto_region 1 with fail
 generalize ((w.alloc (.cells #[.int .i64 (h.name : Int), .int .i64 mi, .int .i64 (h.typ : Int), .int .i64 (h.first : Int), .int .i64 (h.count : Int), .int .i64 (h.entry : Int), .int .i64 (h.W : Int), .int .i64 (h.H : Int), .int .i64 (h.depth : Int), .int .i64 (h.alpha : Int), .bool h.left, .bool h.top, .int .i64 0, .int .i64 0] 133)).alloc (.cells #[.int .u8 0, .int .u8 0, .int .u8 0, .int .u8 0] 68)) = w1 at H1 C1 B1 ⊢
 have c0 : w1.cell? ⟨w.heap.size, 0, none⟩ = some (.int .i64 (h.name : Int)) := Blk.cell H1 0
 have c1 : w1.cell? ⟨w.heap.size, 1, none⟩ = some (.int .i64 mi) := Blk.cell H1 1
 have c2 : w1.cell? ⟨w.heap.size, 2, none⟩ = some (.int .i64 (h.typ : Int)) := Blk.cell H1 2
 have c3 : w1.cell? ⟨w.heap.size, 3, none⟩ = some (.int .i64 (h.first : Int)) := Blk.cell H1 3
 have c4 : w1.cell? ⟨w.heap.size, 4, none⟩ = some (.int .i64 (h.count : Int)) := Blk.cell H1 4
 have c5 : w1.cell? ⟨w.heap.size, 5, none⟩ = some (.int .i64 (h.entry : Int)) := Blk.cell H1 5
 have c6 : w1.cell? ⟨w.heap.size, 6, none⟩ = some (.int .i64 (h.W : Int)) := Blk.cell H1 6
 have c7 : w1.cell? ⟨w.heap.size, 7, none⟩ = some (.int .i64 (h.H : Int)) := Blk.cell H1 7
 have c8 : w1.cell? ⟨w.heap.size, 8, none⟩ = some (.int .i64 (h.depth : Int)) := Blk.cell H1 8
 have c9 : w1.cell? ⟨w.heap.size, 9, none⟩ = some (.int .i64 (h.alpha : Int)) := Blk.cell H1 9
 have c10 : w1.cell? ⟨w.heap.size, 10, none⟩ = some (.bool h.left) := Blk.cell H1 10
 have c11 : w1.cell? ⟨w.heap.size, 11, none⟩ = some (.bool h.top) := Blk.cell H1 11
 have c12 : w1.cell? ⟨w.heap.size, 12, none⟩ = some (.int .i64 0) := Blk.cell H1 12
 have c13 : w1.cell? ⟨w.heap.size, 13, none⟩ = some (.int .i64 0) := Blk.cell H1 13
 go_upto_region 3 with (go_at_call 128; refine (HSZ.out _).mono ?_; rintro e w2 ⟨rfl, b2⟩; have H2 : Blk w2 w.heap.size 133 (tHdD h mi) := Blk.below H1 b2 (Blk.lt H1); have C2 : Q0 w2 (w.heap.size + 1) := Blk.below C1 b2 (Blk.lt C1); have B2 := below_next B1 b2; obtain ⟨q0, q1, q2, q3, x0, x1, x2, x3, ql⟩ := C2.all)
 clear c0
 clear c1
 clear c2
 clear c3
 clear c4
 clear c5
 clear c6
 clear c7
 clear c8
 clear c9
 clear c10
 clear c11
 clear c12
 clear c13
 have c2 : w2.cell? ⟨w.heap.size, 2, none⟩ = some (.int .i64 (h.typ : Int)) := Blk.cell H2 2
 have c3 : w2.cell? ⟨w.heap.size, 3, none⟩ = some (.int .i64 (h.first : Int)) := Blk.cell H2 3
 have c8 : w2.cell? ⟨w.heap.size, 8, none⟩ = some (.int .i64 (h.depth : Int)) := Blk.cell H2 8
 have hA2 := HAA.out.below (B2)
 obtain ⟨m0, m1, m2, m3⟩ := hA2 i q HQ.out
 rw [Nat.zero_add] at m0 m1 m2 m3
 have hg2 : g < w2.heap.size := Nat.lt_of_lt_of_le hg B2.size
 have HBB := Lib.hid B2
 clear B2 hA2 H2 C2
 go_wp2_with fail
 exact bodyPost_ret (v := .tuple #[q.v, .int .i64 0, .int .i64 0]) (by simp [results, Tryz.results129, go_sem, q0, q1, q2, q3, Qc.v]) rfl ⟨Below.st4 HBB.out hcl, .inr (.inr ⟨HLE.out, q, by have h1 := HFI.out; have h2 := HQ.out; have h3 := HIL.out; unfold tgaPixel; rw [if_neg (fun e => e H8.out), if_neg (fun e => e HNM.out), show bat s a - h.first = i by omega, if_pos ⟨by omega, h3⟩, List.getD_eq_getElem?_getD, h2]; rfl, rfl⟩)⟩
set_option maxRecDepth 100000 in
set_option maxHeartbeats 4000000 in
theorem refTgaPix_low {w : World} {s : ByteArray} {h : TgaHd} {M : List Qc} {a : Nat} {v : Value} (hd : h.depth = 8 ∨ TgaCol h.depth) (h8 : h.depth = 8) (hmm : h.mapped) (hf1 : h.first ≤ 65535) (hle : a + h.size ≤ s.size) (hno : bat s a < h.first) (hs : s.size ≤ 100000) (ha : a ≤ s.size) :
  Calls Tryz.prog 129 #[.string s, .int .i64 (a : Int), tRV h, v] w fun e w' => RPixPost w w' s h M a e := by
 obtain ⟨z, hz⟩ : ∃ z, h.size = z := ⟨_, rfl⟩
 have hzB : z ≤ 4 := by rw [← hz]; unfold TgaHd.size; unfold TgaCol at hd; omega
 have HSZ := Lib.hid (fun w => refTgaSize hd hz w)
 unfold tRV tRdV at HSZ ⊢
 have HZ := Lib.hid hz
 have hsI : (s.size : Int) ≤ 100000 := by omega
 have haI : (a : Int) ≤ (s.size : Int) := by omega
 have hzI : (z : Int) ≤ 4 := by omega
 have hI : ¬ (s.size : Int) < (a : Int) + (z : Int) := by omega
 have HLE := Lib.hid hle
 have hz1 : z = 1 := by rw [← hz]; unfold TgaHd.size; rw [h8]
 have x8 : ((h.depth : Int) != 8) = false := by rw [h8]; rfl
 have na : a < s.size := by omega
 have ia : (a : Int) < (s.size : Int) := by omega
 obtain ⟨bv, hbv⟩ : ∃ bv, bat s a = bv := ⟨_, rfl⟩
 have hbB := bat_lt s a
 rw [hbv] at hbB
 have ga : s[a].toNat = bv := by rw [← bat_eq na]; exact hbv
 have wrb : IntKind.i64.wrap (bv : Int) = (bv : Int) := IntWalk.i64_in _ (by omega)
 have bvI : (bv : Int) < 256 := by omega
 have HBV := Lib.hid hbv
 have H8 := Lib.hid h8
 clear hle hbv h8
 have hnm : h.mapped := hmm
 have HNM := Lib.hid hnm
 have hty := (tgaMapped_iff h).2 hnm
 have x3 : ((h.typ : Int) == 3) = false := beq_eq_false_iff_ne.2 (by omega)
 have x11 : ((h.typ : Int) == 11) = false := beq_eq_false_iff_ne.2 (by omega)
 have hf1I : (h.first : Int) ≤ 65535 := by omega
 clear hnm hty hmm
 have y1 : (bv : Int) < (h.first : Int) := by have := HBV.out; omega
 have HNO := Lib.hid hno
 clear hno hf1
 generalize (if h.map = true then (1 : Int) else 0) = mi at HSZ ⊢
 have H1 : Blk ((w.alloc (.cells #[.int .i64 (h.name : Int), .int .i64 mi, .int .i64 (h.typ : Int), .int .i64 (h.first : Int), .int .i64 (h.count : Int), .int .i64 (h.entry : Int), .int .i64 (h.W : Int), .int .i64 (h.H : Int), .int .i64 (h.depth : Int), .int .i64 (h.alpha : Int), .bool h.left, .bool h.top, .int .i64 0, .int .i64 0] 133)).alloc (.cells #[.int .u8 0, .int .u8 0, .int .u8 0, .int .u8 0] 68)) w.heap.size 133 (tHdD h mi) := Blk.alloc (Blk.new _ _ _) _
 have C1 : Q0 ((w.alloc (.cells #[.int .i64 (h.name : Int), .int .i64 mi, .int .i64 (h.typ : Int), .int .i64 (h.first : Int), .int .i64 (h.count : Int), .int .i64 (h.entry : Int), .int .i64 (h.W : Int), .int .i64 (h.H : Int), .int .i64 (h.depth : Int), .int .i64 (h.alpha : Int), .bool h.left, .bool h.top, .int .i64 0, .int .i64 0] 133)).alloc (.cells #[.int .u8 0, .int .u8 0, .int .u8 0, .int .u8 0] 68)) (w.heap.size + 1) := Blk.new_at _ _ _ (by simp)
 have B1 : Below w.heap.size w ((w.alloc (.cells #[.int .i64 (h.name : Int), .int .i64 mi, .int .i64 (h.typ : Int), .int .i64 (h.first : Int), .int .i64 (h.count : Int), .int .i64 (h.entry : Int), .int .i64 (h.W : Int), .int .i64 (h.H : Int), .int .i64 (h.depth : Int), .int .i64 (h.alpha : Int), .bool h.left, .bool h.top, .int .i64 0, .int .i64 0] 133)).alloc (.cells #[.int .u8 0, .int .u8 0, .int .u8 0, .int .u8 0] 68)) := ((Below.refl _ _).alloc (Nat.le_refl _) _).alloc (by simp) _
 have hcl : w.heap.size ≤ w.heap.size + 1 := by omega
 clear hz
 go_enter Tryz.func129, Tryz.ntmps129
 go_upto_region 1 with fail
 generalize ((w.alloc (.cells #[.int .i64 (h.name : Int), .int .i64 mi, .int .i64 (h.typ : Int), .int .i64 (h.first : Int), .int .i64 (h.count : Int), .int .i64 (h.entry : Int), .int .i64 (h.W : Int), .int .i64 (h.H : Int), .int .i64 (h.depth : Int), .int .i64 (h.alpha : Int), .bool h.left, .bool h.top, .int .i64 0, .int .i64 0] 133)).alloc (.cells #[.int .u8 0, .int .u8 0, .int .u8 0, .int .u8 0] 68)) = w1 at H1 C1 B1 ⊢
 have c0 : w1.cell? ⟨w.heap.size, 0, none⟩ = some (.int .i64 (h.name : Int)) := Blk.cell H1 0
 have c1 : w1.cell? ⟨w.heap.size, 1, none⟩ = some (.int .i64 mi) := Blk.cell H1 1
 have c2 : w1.cell? ⟨w.heap.size, 2, none⟩ = some (.int .i64 (h.typ : Int)) := Blk.cell H1 2
 have c3 : w1.cell? ⟨w.heap.size, 3, none⟩ = some (.int .i64 (h.first : Int)) := Blk.cell H1 3
 have c4 : w1.cell? ⟨w.heap.size, 4, none⟩ = some (.int .i64 (h.count : Int)) := Blk.cell H1 4
 have c5 : w1.cell? ⟨w.heap.size, 5, none⟩ = some (.int .i64 (h.entry : Int)) := Blk.cell H1 5
 have c6 : w1.cell? ⟨w.heap.size, 6, none⟩ = some (.int .i64 (h.W : Int)) := Blk.cell H1 6
 have c7 : w1.cell? ⟨w.heap.size, 7, none⟩ = some (.int .i64 (h.H : Int)) := Blk.cell H1 7
 have c8 : w1.cell? ⟨w.heap.size, 8, none⟩ = some (.int .i64 (h.depth : Int)) := Blk.cell H1 8
 have c9 : w1.cell? ⟨w.heap.size, 9, none⟩ = some (.int .i64 (h.alpha : Int)) := Blk.cell H1 9
 have c10 : w1.cell? ⟨w.heap.size, 10, none⟩ = some (.bool h.left) := Blk.cell H1 10
 have c11 : w1.cell? ⟨w.heap.size, 11, none⟩ = some (.bool h.top) := Blk.cell H1 11
 have c12 : w1.cell? ⟨w.heap.size, 12, none⟩ = some (.int .i64 0) := Blk.cell H1 12
 have c13 : w1.cell? ⟨w.heap.size, 13, none⟩ = some (.int .i64 0) := Blk.cell H1 13
 go_upto_region 3 with (go_at_call 128; refine (HSZ.out _).mono ?_; rintro e w2 ⟨rfl, b2⟩; have H2 : Blk w2 w.heap.size 133 (tHdD h mi) := Blk.below H1 b2 (Blk.lt H1); have C2 : Q0 w2 (w.heap.size + 1) := Blk.below C1 b2 (Blk.lt C1); have B2 := below_next B1 b2; obtain ⟨q0, q1, q2, q3, x0, x1, x2, x3, ql⟩ := C2.all)
 clear c0
 clear c1
 clear c2
 clear c3
 clear c4
 clear c5
 clear c6
 clear c7
 clear c8
 clear c9
 clear c10
 clear c11
 clear c12
 clear c13
 have c2 : w2.cell? ⟨w.heap.size, 2, none⟩ = some (.int .i64 (h.typ : Int)) := Blk.cell H2 2
 have c3 : w2.cell? ⟨w.heap.size, 3, none⟩ = some (.int .i64 (h.first : Int)) := Blk.cell H2 3
 have c8 : w2.cell? ⟨w.heap.size, 8, none⟩ = some (.int .i64 (h.depth : Int)) := Blk.cell H2 8
 have HBB := Lib.hid B2
 clear B2 H2 C2
 go_wp2_with fail
 exact bodyPost_ret (v := .tuple #[Qc.v ⟨0, 0, 0, 0⟩, .int .i64 2, .int .i64 (a : Int)]) (by simp [results, Tryz.results129, go_sem, q0, q1, q2, q3, Qc.v]) rfl ⟨Below.st4 HBB.out hcl, .inr (.inl ⟨HLE.out, by unfold tgaPixel; rw [if_neg (fun e => e H8.out), if_neg (fun e => e HNM.out), if_neg (fun e => absurd HNO.out (by omega))], rfl⟩)⟩
set_option maxRecDepth 100000 in
set_option maxHeartbeats 4000000 in
theorem refTgaPix_high {w : World} {s : ByteArray} {h : TgaHd} {M : List Qc} {a : Nat} {gg : Option Addr} {n cap : Nat} (hd : h.depth = 8 ∨ TgaCol h.depth) (h8 : h.depth = 8) (hmm : h.mapped) (hf1 : h.first ≤ 65535) (hle : a + h.size ≤ s.size) (hf : h.first ≤ bat s a) (hn : n = M.length) (hno : ¬ bat s a - h.first < M.length) (hs : s.size ≤ 100000) (ha : a ≤ s.size) :
  Calls Tryz.prog 129 #[.string s, .int .i64 (a : Int), tRV h, .slice gg n cap] w fun e w' => RPixPost w w' s h M a e := by
 obtain ⟨z, hz⟩ : ∃ z, h.size = z := ⟨_, rfl⟩
 have hzB : z ≤ 4 := by rw [← hz]; unfold TgaHd.size; unfold TgaCol at hd; omega
 have HSZ := Lib.hid (fun w => refTgaSize hd hz w)
 unfold tRV tRdV at HSZ ⊢
 have HZ := Lib.hid hz
 have hsI : (s.size : Int) ≤ 100000 := by omega
 have haI : (a : Int) ≤ (s.size : Int) := by omega
 have hzI : (z : Int) ≤ 4 := by omega
 have hI : ¬ (s.size : Int) < (a : Int) + (z : Int) := by omega
 have HLE := Lib.hid hle
 have hz1 : z = 1 := by rw [← hz]; unfold TgaHd.size; rw [h8]
 have x8 : ((h.depth : Int) != 8) = false := by rw [h8]; rfl
 have na : a < s.size := by omega
 have ia : (a : Int) < (s.size : Int) := by omega
 obtain ⟨bv, hbv⟩ : ∃ bv, bat s a = bv := ⟨_, rfl⟩
 have hbB := bat_lt s a
 rw [hbv] at hbB
 have ga : s[a].toNat = bv := by rw [← bat_eq na]; exact hbv
 have wrb : IntKind.i64.wrap (bv : Int) = (bv : Int) := IntWalk.i64_in _ (by omega)
 have bvI : (bv : Int) < 256 := by omega
 have HBV := Lib.hid hbv
 have H8 := Lib.hid h8
 clear hle hbv h8
 have hnm : h.mapped := hmm
 have HNM := Lib.hid hnm
 have hty := (tgaMapped_iff h).2 hnm
 have x3 : ((h.typ : Int) == 3) = false := beq_eq_false_iff_ne.2 (by omega)
 have x11 : ((h.typ : Int) == 11) = false := beq_eq_false_iff_ne.2 (by omega)
 have hf1I : (h.first : Int) ≤ 65535 := by omega
 clear hnm hty hmm
 have y1 : ¬ (bv : Int) < (h.first : Int) := by have := HBV.out; omega
 have y2 : (n : Int) ≤ (bv : Int) - (h.first : Int) := by have := HBV.out; omega
 have HNO := Lib.hid hno
 have HFF := Lib.hid hf
 clear hno hf hn hf1
 generalize (if h.map = true then (1 : Int) else 0) = mi at HSZ ⊢
 have H1 : Blk ((w.alloc (.cells #[.int .i64 (h.name : Int), .int .i64 mi, .int .i64 (h.typ : Int), .int .i64 (h.first : Int), .int .i64 (h.count : Int), .int .i64 (h.entry : Int), .int .i64 (h.W : Int), .int .i64 (h.H : Int), .int .i64 (h.depth : Int), .int .i64 (h.alpha : Int), .bool h.left, .bool h.top, .int .i64 0, .int .i64 0] 133)).alloc (.cells #[.int .u8 0, .int .u8 0, .int .u8 0, .int .u8 0] 68)) w.heap.size 133 (tHdD h mi) := Blk.alloc (Blk.new _ _ _) _
 have C1 : Q0 ((w.alloc (.cells #[.int .i64 (h.name : Int), .int .i64 mi, .int .i64 (h.typ : Int), .int .i64 (h.first : Int), .int .i64 (h.count : Int), .int .i64 (h.entry : Int), .int .i64 (h.W : Int), .int .i64 (h.H : Int), .int .i64 (h.depth : Int), .int .i64 (h.alpha : Int), .bool h.left, .bool h.top, .int .i64 0, .int .i64 0] 133)).alloc (.cells #[.int .u8 0, .int .u8 0, .int .u8 0, .int .u8 0] 68)) (w.heap.size + 1) := Blk.new_at _ _ _ (by simp)
 have B1 : Below w.heap.size w ((w.alloc (.cells #[.int .i64 (h.name : Int), .int .i64 mi, .int .i64 (h.typ : Int), .int .i64 (h.first : Int), .int .i64 (h.count : Int), .int .i64 (h.entry : Int), .int .i64 (h.W : Int), .int .i64 (h.H : Int), .int .i64 (h.depth : Int), .int .i64 (h.alpha : Int), .bool h.left, .bool h.top, .int .i64 0, .int .i64 0] 133)).alloc (.cells #[.int .u8 0, .int .u8 0, .int .u8 0, .int .u8 0] 68)) := ((Below.refl _ _).alloc (Nat.le_refl _) _).alloc (by simp) _
 have hcl : w.heap.size ≤ w.heap.size + 1 := by omega
 clear hz
 go_enter Tryz.func129, Tryz.ntmps129
 go_upto_region 1 with fail
 generalize ((w.alloc (.cells #[.int .i64 (h.name : Int), .int .i64 mi, .int .i64 (h.typ : Int), .int .i64 (h.first : Int), .int .i64 (h.count : Int), .int .i64 (h.entry : Int), .int .i64 (h.W : Int), .int .i64 (h.H : Int), .int .i64 (h.depth : Int), .int .i64 (h.alpha : Int), .bool h.left, .bool h.top, .int .i64 0, .int .i64 0] 133)).alloc (.cells #[.int .u8 0, .int .u8 0, .int .u8 0, .int .u8 0] 68)) = w1 at H1 C1 B1 ⊢
 have c0 : w1.cell? ⟨w.heap.size, 0, none⟩ = some (.int .i64 (h.name : Int)) := Blk.cell H1 0
 have c1 : w1.cell? ⟨w.heap.size, 1, none⟩ = some (.int .i64 mi) := Blk.cell H1 1
 have c2 : w1.cell? ⟨w.heap.size, 2, none⟩ = some (.int .i64 (h.typ : Int)) := Blk.cell H1 2
 have c3 : w1.cell? ⟨w.heap.size, 3, none⟩ = some (.int .i64 (h.first : Int)) := Blk.cell H1 3
 have c4 : w1.cell? ⟨w.heap.size, 4, none⟩ = some (.int .i64 (h.count : Int)) := Blk.cell H1 4
 have c5 : w1.cell? ⟨w.heap.size, 5, none⟩ = some (.int .i64 (h.entry : Int)) := Blk.cell H1 5
 have c6 : w1.cell? ⟨w.heap.size, 6, none⟩ = some (.int .i64 (h.W : Int)) := Blk.cell H1 6
 have c7 : w1.cell? ⟨w.heap.size, 7, none⟩ = some (.int .i64 (h.H : Int)) := Blk.cell H1 7
 have c8 : w1.cell? ⟨w.heap.size, 8, none⟩ = some (.int .i64 (h.depth : Int)) := Blk.cell H1 8
 have c9 : w1.cell? ⟨w.heap.size, 9, none⟩ = some (.int .i64 (h.alpha : Int)) := Blk.cell H1 9
 have c10 : w1.cell? ⟨w.heap.size, 10, none⟩ = some (.bool h.left) := Blk.cell H1 10
 have c11 : w1.cell? ⟨w.heap.size, 11, none⟩ = some (.bool h.top) := Blk.cell H1 11
 have c12 : w1.cell? ⟨w.heap.size, 12, none⟩ = some (.int .i64 0) := Blk.cell H1 12
 have c13 : w1.cell? ⟨w.heap.size, 13, none⟩ = some (.int .i64 0) := Blk.cell H1 13
 go_upto_region 3 with (go_at_call 128; refine (HSZ.out _).mono ?_; rintro e w2 ⟨rfl, b2⟩; have H2 : Blk w2 w.heap.size 133 (tHdD h mi) := Blk.below H1 b2 (Blk.lt H1); have C2 : Q0 w2 (w.heap.size + 1) := Blk.below C1 b2 (Blk.lt C1); have B2 := below_next B1 b2; obtain ⟨q0, q1, q2, q3, x0, x1, x2, x3, ql⟩ := C2.all)
 clear c0
 clear c1
 clear c2
 clear c3
 clear c4
 clear c5
 clear c6
 clear c7
 clear c8
 clear c9
 clear c10
 clear c11
 clear c12
 clear c13
 have c2 : w2.cell? ⟨w.heap.size, 2, none⟩ = some (.int .i64 (h.typ : Int)) := Blk.cell H2 2
 have c3 : w2.cell? ⟨w.heap.size, 3, none⟩ = some (.int .i64 (h.first : Int)) := Blk.cell H2 3
 have c8 : w2.cell? ⟨w.heap.size, 8, none⟩ = some (.int .i64 (h.depth : Int)) := Blk.cell H2 8
 have HBB := Lib.hid B2
 clear B2 H2 C2
 go_wp2_with fail
 exact bodyPost_ret (v := .tuple #[Qc.v ⟨0, 0, 0, 0⟩, .int .i64 2, .int .i64 (a : Int)]) (by simp [results, Tryz.results129, go_sem, q0, q1, q2, q3, Qc.v]) rfl ⟨Below.st4 HBB.out hcl, .inr (.inl ⟨HLE.out, by unfold tgaPixel; rw [if_neg (fun e => e H8.out), if_neg (fun e => e HNM.out), if_neg (fun e => HNO.out e.2)], rfl⟩)⟩
theorem refTgaPixelC {w : World} {s : ByteArray} {h : TgaHd} {M : List Qc} {a : Nat} {v : Value} (hh : h.Ok) (RM : RowM w v M) (hM : M.length ≤ 65535) (hs : s.size ≤ 100000) (ha : a ≤ s.size) :
  Calls Tryz.prog 129 #[.string s, .int .i64 (a : Int), tRV h, v] w fun e w' => RPixPost w w' s h M a e := by
 have hd : h.depth = 8 ∨ TgaCol h.depth := by
  have := hh.d1
  unfold TgaDepth at this
  split at this
  ·exact .inr this
  ·exact .inl this
 by_cases hle : a + h.size ≤ s.size
 ·by_cases h8 : h.depth = 8
  ·by_cases hm : h.mapped
   ·by_cases hf : h.first ≤ bat s a
    ·by_cases hin : bat s a - h.first < M.length
     ·rcases RM with ⟨_, rfl⟩ | ⟨g, cap, rfl, hg, hA⟩
      ·exact absurd hin (by simp)
      ·exact refTgaPix_in hd h8 hm hh.f1 hle hg hA hM (i := bat s a - h.first) (by omega) (List.getElem?_eq_getElem hin) hs ha
     ·rcases RM with ⟨rfl, rfl⟩ | ⟨g, cap, rfl, hg, hA⟩
      ·exact refTgaPix_high hd h8 hm hh.f1 hle hf rfl hin hs ha
      ·exact refTgaPix_high hd h8 hm hh.f1 hle hf rfl hin hs ha
    ·exact refTgaPix_low hd h8 hm hh.f1 hle (by omega) hs ha
   ·have h3 : h.typ = 3 ∨ h.typ = 11 := by
     have h1 := hh.t1
     have h2 := hh.d1
     have h4 : ¬ (h.typ = 1 ∨ h.typ = 9) := fun e => hm ((tgaMapped_iff h).1 e)
     unfold TgaDepth at h2
     by_cases hp : tgaPlain h.typ = 2
     ·rw [if_pos hp] at h2; unfold TgaCol at h2; omega
     ·unfold tgaPlain at hp
      unfold TgaKnown at h1
      by_cases hk : TgaPacked h.typ
      ·rw [if_pos hk] at hp; unfold TgaPacked at hk; omega
      ·rw [if_neg hk] at hp; rcases h1 with h1 | h1
       ·omega
       ·exact absurd h1 hk
    exact refTgaPix_gray hd h8 h3 hle hs ha
  ·have hc : TgaCol h.depth := hd.elim (fun e => absurd e h8) id
   exact refTgaPix_col hd hc h8 hle hs ha
 ·exact refTgaPix_short hd (by omega) hs ha
end Go.Proofs.YtlehkgkomjojmaaGreat
