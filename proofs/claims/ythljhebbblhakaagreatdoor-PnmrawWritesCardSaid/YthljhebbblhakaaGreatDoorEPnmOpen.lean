/- The steps of a reading; awake of chapter 14. Arguments opened: a head by value. -/
import Derived.Test.YthljhebbblhakaaGreatDoorEPnmRd14
import Derived.Test.YthljhebbblhakaaGreatDoorEFfM
namespace Go.Proofs.YthljhebbblhakaaGreatDoor
open Go.RowKit
set_option linter.unusedVariables false
set_option linter.unusedSimpArgs false

def lit14 : ByteArray := ⟨#[80, 52, 10, 57, 32, 49, 10, 128, 128]⟩
theorem lit14_head : headAt (nats lit14) = ⟨4, 9, 1, 1, 7, 0, 0⟩ := by decide +kernel
theorem lit14_told : (pnmDec lit14).told = .img 9 1 [0, 0, 0, 255, 255, 255, 255, 255, 255, 255, 255, 255, 255, 255, 255, 255, 255, 255, 255, 255, 255, 255, 255, 255, 255, 255, 255, 255, 255, 255, 255, 255, 0, 0, 0, 255] := by kernel_rfl
theorem awRead14 (w : World) : Calls Tryz.prog 16 #[.string ⟨#[80, 52, 10, 57, 32, 49, 10, 128, 128]⟩, .int .i64 1000] w fun e w' => ∃ g d, e = .returned (imgRet 9 1 d 36 g) ∧ BytesAt w' (some ⟨d, 0, none⟩) 36 [0, 0, 0, 255, 255, 255, 255, 255, 255, 255, 255, 255, 255, 255, 255, 255, 255, 255, 255, 255, 255, 255, 255, 255, 255, 255, 255, 255, 255, 255, 255, 255, 0, 0, 0, 255] ∧ Below w.heap.size w w' := by
  have hh : HeadOk lit14 ⟨4, 9, 1, 1, 7, 0, 0⟩ := by
    have h := headOk_of (s := lit14) (by rw [lit14_head])
    rw [lit14_head] at h
    exact h
  refine (readC14 (s := lit14) (h := ⟨4, 9, 1, 1, 7, 0, 0⟩) (x0 := Led.new 100 100 40000 1000) rfl (by constructor <;> decide) rfl rfl (by decide) hh (by decide) (by decide) (by decide) w).mono ?_
  rintro e w' p
  obtain ⟨g, b, hor⟩ := lawFull hh (by decide) (by decide) (by decide) p
  rcases hor with ⟨kk, aa, _, _, ht, _⟩ | ⟨W, H, l, d, ht, he, hb⟩
  · rw [lit14_told] at ht; cases ht
  · rw [lit14_told] at ht
    injection ht with h1 h2 h3
    subst h1 h2 h3
    exact ⟨g, d, he, hb, b⟩
theorem pix14 {w : World} {d X : Nat} {c : UInt8} (hb : BytesAt w (some ⟨d, 0, none⟩) 36 [0, 0, 0, 255, 255, 255, 255, 255, 255, 255, 255, 255, 255, 255, 255, 255, 255, 255, 255, 255, 255, 255, 255, 255, 255, 255, 255, 255, 255, 255, 255, 255, 0, 0, 0, 255]) (hX : X < 9) (hq : (([0, 0, 0, 255, 255, 255, 255, 255, 255, 255, 255, 255, 255, 255, 255, 255, 255, 255, 255, 255, 255, 255, 255, 255, 255, 255, 255, 255, 255, 255, 255, 255, 0, 0, 0, 255] : List UInt8).drop (4 * X)).take 4 = [c, c, c, 255]) : Calls Tryz.prog 26 #[.agg #[.int .i64 9, .int .i64 1, .slice (some ⟨d, 0, none⟩) 36 36], .int .i64 (X : Int), .int .i64 0] w fun e w' => e = .returned (.tuple #[.agg #[.int .u8 (c.toNat : Int), .int .u8 (c.toNat : Int), .int .u8 (c.toNat : Int), .int .u8 255], .bool true]) ∧ Below w.heap.size w w' := by
  have hc : ∀ j (hj : j < ([0, 0, 0, 255, 255, 255, 255, 255, 255, 255, 255, 255, 255, 255, 255, 255, 255, 255, 255, 255, 255, 255, 255, 255, 255, 255, 255, 255, 255, 255, 255, 255, 0, 0, 0, 255] : List UInt8).length), w.cell? ⟨d, 0 + j, none⟩ = some (.int .u8 ((([0, 0, 0, 255, 255, 255, 255, 255, 255, 255, 255, 255, 255, 255, 255, 255, 255, 255, 255, 255, 255, 255, 255, 255, 255, 255, 255, 255, 255, 255, 255, 255, 0, 0, 0, 255] : List UInt8)[j]'hj).toNat : Int)) := by
    rcases hb.2 with h | ⟨b, off, e, h⟩
    · exact absurd h (by decide)
    · injection e with e
      injection e with e1 e2
      subst e1 e2
      exact h
  exact pixel_yes (W := 9) (H := 1) (X := X) (Y := 0) (p := 0) (i := 4 * X) (by unfold RightP; decide) rfl hc (Nat.le_refl _) hX (by decide) (Nat.zero_mul _) (by omega) (show 4 * X + 4 ≤ 36 by omega) hq
set_option maxRecDepth 100000 in
set_option maxHeartbeats 2000000 in
theorem awake14_any (w : World) : Calls Tryz.prog 13 #[] w fun e w' => e = .returned (.bool true) ∧ Below w.heap.size w w' := by
  have HA := Lib.hid awRead14
  unfold imgRet at HA
  go_enter Tryz.func13, Tryz.ntmps13
  go_upto_region 2 with (go_at_call 16; refine (HA.out _).mono ?_; rintro e w2 ⟨g, d, rfl, hb, b2⟩)
  have T2 : BytesAt ((w2.alloc (.cells #[.int .i64 9, .int .i64 1, .slice (some ⟨d, 0, none⟩) 36 36] 24)).alloc (.cells #[.int .i64 0, .int .i64 0, .int .i64 0] 33)) (some ⟨d, 0, none⟩) 36 [0, 0, 0, 255, 255, 255, 255, 255, 255, 255, 255, 255, 255, 255, 255, 255, 255, 255, 255, 255, 255, 255, 255, 255, 255, 255, 255, 255, 255, 255, 255, 255, 0, 0, 0, 255] := (hb.alloc _).alloc _
  have I2 : IB ((w2.alloc (.cells #[.int .i64 9, .int .i64 1, .slice (some ⟨d, 0, none⟩) 36 36] 24)).alloc (.cells #[.int .i64 0, .int .i64 0, .int .i64 0] 33)) w2.heap.size 9 1 (some ⟨d, 0, none⟩) 36 36 := Blk.alloc (Blk.new _ _ _) _
  have F2 : FB ((w2.alloc (.cells #[.int .i64 9, .int .i64 1, .slice (some ⟨d, 0, none⟩) 36 36] 24)).alloc (.cells #[.int .i64 0, .int .i64 0, .int .i64 0] 33)) (w2.heap.size + 1) 0 0 0 := Blk.new_at _ _ _ (by simp)
  have B2 : Below w.heap.size w ((w2.alloc (.cells #[.int .i64 9, .int .i64 1, .slice (some ⟨d, 0, none⟩) 36 36] 24)).alloc (.cells #[.int .i64 0, .int .i64 0, .int .i64 0] 33)) := (b2.alloc b2.size _).alloc (by have := b2.size; simp; omega) _
  clear hb b2
  generalize (w2.alloc (.cells #[.int .i64 9, .int .i64 1, .slice (some ⟨d, 0, none⟩) 36 36] 24)).alloc (.cells #[.int .i64 0, .int .i64 0, .int .i64 0] 33) = w3 at T2 I2 F2 B2 ⊢
  generalize w2.heap.size + 1 = qf at F2 ⊢
  generalize w2.heap.size = qm at I2 ⊢
  obtain ⟨e0, e1, e2, v0, v1, v2, il⟩ := IB.all I2
  have HP8 := Lib.hid (pix14 (X := 8) (c := 0) T2 (by decide) (by decide))
  go_upto_region 3 with (go_at_call 26; refine HP8.out.mono ?_; rintro e w4 ⟨rfl, b4⟩)
  have T4 := (T2.below b4).alloc (.cells #[.int .u8 0, .int .u8 0, .int .u8 0, .int .u8 255] 48)
  have I4 : IB (w4.alloc (.cells #[.int .u8 0, .int .u8 0, .int .u8 0, .int .u8 255] 48)) qm 9 1 (some ⟨d, 0, none⟩) 36 36 := Blk.alloc (Blk.below I2 b4 (Blk.lt I2)) _
  have F4 : FB (w4.alloc (.cells #[.int .u8 0, .int .u8 0, .int .u8 0, .int .u8 255] 48)) qf 0 0 0 := Blk.alloc (Blk.below F2 b4 (Blk.lt F2)) _
  have C4 : CB (w4.alloc (.cells #[.int .u8 0, .int .u8 0, .int .u8 0, .int .u8 255] 48)) w4.heap.size 0 0 0 255 := Blk.new _ _ _
  have B4' := below_next B2 b4
  have B4 : Below w.heap.size w (w4.alloc (.cells #[.int .u8 0, .int .u8 0, .int .u8 0, .int .u8 255] 48)) := B4'.alloc B4'.size _
  clear T2 I2 F2 B2 B4' b4 HP8 e0 e1 e2 v0 v1 v2 il
  generalize w4.alloc (.cells #[.int .u8 0, .int .u8 0, .int .u8 0, .int .u8 255] 48) = w5 at T4 I4 F4 C4 B4 ⊢
  generalize w4.heap.size = qc at C4 ⊢
  obtain ⟨e0, e1, e2, v0, v1, v2, il⟩ := IB.all I4
  have HP1 := Lib.hid (pix14 (X := 1) (c := 255) T4 (by decide) (by decide))
  go_upto_region 4 with (go_at_call 26; refine HP1.out.mono ?_; rintro e w6 ⟨rfl, b6⟩)
  have F6 : FB (w6.alloc (.cells #[.int .u8 255, .int .u8 255, .int .u8 255, .int .u8 255] 48)) qf 0 0 0 := Blk.alloc (Blk.below F4 b6 (Blk.lt F4)) _
  have C6 : CB (w6.alloc (.cells #[.int .u8 255, .int .u8 255, .int .u8 255, .int .u8 255] 48)) qc 0 0 0 255 := Blk.alloc (Blk.below C4 b6 (Blk.lt C4)) _
  have D6 : CB (w6.alloc (.cells #[.int .u8 255, .int .u8 255, .int .u8 255, .int .u8 255] 48)) w6.heap.size 255 255 255 255 := Blk.new _ _ _
  have B6' := below_next B4 b6
  have B6 : Below w.heap.size w (w6.alloc (.cells #[.int .u8 255, .int .u8 255, .int .u8 255, .int .u8 255] 48)) := B6'.alloc B6'.size _
  clear T4 I4 F4 C4 B4 B6' b6 HP1 e0 e1 e2 v0 v1 v2 il
  generalize w6.alloc (.cells #[.int .u8 255, .int .u8 255, .int .u8 255, .int .u8 255] 48) = w7 at F6 C6 D6 B6 ⊢
  generalize w6.heap.size = qd at D6 ⊢
  obtain ⟨c0, c1, c2, z0, z1, z2, fl⟩ := FB.all F6
  have d0 := C6.c0
  have d1 := C6.c1
  have d2 := C6.c2
  have d3 := C6.c3
  have f0 := D6.c0
  have f1 := D6.c1
  have f2 := D6.c2
  have f3 := D6.c3
  go_wp2_with fail
  go_ret
  exact ⟨rfl, B6⟩
end Go.Proofs.YthljhebbblhakaaGreatDoor
namespace Go.Proofs.YthljhebbblhakaaGreatDoor
open Go.ChangeShapes Go.WideShapes Go.Deep Go.RowKit Go.Joins
set_option linter.unusedVariables false
section
variable {H : Type} {enc : TypeId × Value → H} {P : Program} {w : World} {base : Nat} {spare : Nat → Bool} {held : Bool}

/-- a struct of one-cell fields by value: each field's reading -/
theorem trod_fields {t : TypeId} {fs : Array Field} {cs : List Value} {x : DataW H × List MemPlace} {fuel : Nat} (hs : P.underlying t = some (.struct fs)) (hone : oneCellFields P fs = true) (h : DataW.trod enc P w base spare held fuel t cs = some x) :
    ∃ n, ∀ (j : Nat) (f : Field), fs[j]? = some f → ∃ y, DataW.trod enc P w base spare held n f.type ((cs.drop j).take 1) = some y := by
  obtain ⟨ys, n', hn', hy, hlen, hyl, hf'⟩ := DataW.trod_struct hs h
  refine ⟨n', fun j f hj => ?_⟩
  obtain ⟨ho, hk⟩ := hone_of hone j f hj
  have hjl : j < fs.size := (Array.getElem?_eq_some_iff.1 hj).1
  have h1 := hf' j f hj
  rw [ho, hk] at h1
  have hys : ys[j]? = some (ys[j]'(by omega)) := List.getElem?_eq_getElem (by omega)
  exact ⟨_, h1.trans hys⟩
def fits5 (z : Int) : Prop := -9223372036854775808 ≤ z ∧ z ≤ 9223372036854775807
end
end Go.Proofs.YthljhebbblhakaaGreatDoor
