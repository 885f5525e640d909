/- A raster's refusals; Row, Image, Free, Width, Height. -/
import Derived.Test.YtfgcbhcfekonnaaRas4
import Derived.Test.YtfgcbhcfekonnaaRasImg2
namespace Go.Proofs.Ytfgcbhcfekonnaa
open Go.RowKit
set_option linter.unusedVariables false
set_option linter.unusedSimpArgs false

section
variable {w : World} {r g b d : Nat} {l : List UInt8} {x y : Led}
theorem rasWidth_at {W H : Int} {o : Bool} (h : RasAt w r g b W H o) : Calls Try.prog 10 #[.pointer (some ⟨r, 0, none⟩)] w fun e w' => e = .returned (.int .i64 W) ∧ w = w' := by
  have c1 := h.w_
  clear h
  go_enter Try.func10, Try.ntmps10
  go_wp2_with fail
  go_ret
  exact ⟨rfl, rfl⟩
theorem rasHeight_at {W H : Int} {o : Bool} (h : RasAt w r g b W H o) : Calls Try.prog 11 #[.pointer (some ⟨r, 0, none⟩)] w fun e w' => e = .returned (.int .i64 H) ∧ w = w' := by
  have c1 := h.h_
  clear h
  go_enter Try.func11, Try.ntmps11
  go_wp2_with fail
  go_ret
  exact ⟨rfl, rfl⟩
theorem rasSet_no {X Y W H : Int} {o : Bool} (h : RasAt w r g b W H o) (hno : ¬ (o = true ∧ 0 ≤ X ∧ X < W ∧ 0 ≤ Y ∧ Y < H)) (c0 c1 c2 c3 : Int) :
    Calls Try.prog 42 #[.pointer (some ⟨r, 0, none⟩), .int .i64 X, .int .i64 Y, .agg #[.int .u8 c0, .int .u8 c1, .int .u8 c2, .int .u8 c3]] w fun e w' => e = .returned (.bool false) ∧ Below w.heap.size w w' := by
  have h1 : RasAt (w.alloc (.cells #[.int .u8 c0, .int .u8 c1, .int .u8 c2, .int .u8 c3] 39)) r g b W H o := Blk.alloc h _
  have HA := Lib.hid (rasAt_no h1 hno)
  have hb : Below w.heap.size w (w.alloc (.cells #[.int .u8 c0, .int .u8 c1, .int .u8 c2, .int .u8 c3] 39)) := (Below.refl _ _).alloc (Nat.le_refl _) _
  clear h h1 hno
  go_enter Try.func42, Try.ntmps42
  go_wp2_with (go_at_call 78; refine HA.out.mono ?_; rintro e w9 ⟨rfl, rfl⟩)
  first
    | (go_ret; exact ⟨rfl, hb⟩)
    | (go_quiet (fail); go_wp2_with fail; go_ret; exact ⟨rfl, below_drewN hb _⟩)
theorem rasGet_no {X Y W H : Int} {o : Bool} (h : RasAt w r g b W H o) (hno : ¬ (o = true ∧ 0 ≤ X ∧ X < W ∧ 0 ≤ Y ∧ Y < H)) :
    Calls Try.prog 45 #[.pointer (some ⟨r, 0, none⟩), .int .i64 X, .int .i64 Y] w fun e w' => e = .returned (.tuple #[.agg #[.int .u8 0, .int .u8 0, .int .u8 0, .int .u8 0], .bool false]) ∧ Below w.heap.size w w' := by
  have h1 : RasAt (w.alloc (.cells #[.int .u8 0, .int .u8 0, .int .u8 0, .int .u8 0] 39)) r g b W H o := Blk.alloc h _
  have HA := Lib.hid (rasAt_no h1 hno)
  clear h h1 hno
  go_enter Try.func45, Try.ntmps45
  go_wp2_with (go_at_call 78; refine HA.out.mono ?_; rintro e w9 ⟨rfl, rfl⟩)
  exact bodyPost_ret (v := .tuple #[.agg #[.int .u8 0, .int .u8 0, .int .u8 0, .int .u8 0], .bool false]) (by simp [results, Try.results45, go_sem]) rfl ⟨rfl, (Below.refl _ _).alloc (Nat.le_refl _) _⟩
theorem rasRow_no {Y W H : Int} {o : Bool} (h : RasAt w r g b W H o) (hno : ¬ (o = true ∧ 0 ≤ (0 : Int) ∧ (0 : Int) < W ∧ 0 ≤ Y ∧ Y < H)) :
    Calls Try.prog 46 #[.pointer (some ⟨r, 0, none⟩), .int .i64 Y] w fun e w' => e = .returned (.tuple #[.string ⟨#[]⟩, .bool false]) ∧ w = w' := by
  have HA := Lib.hid (rasAt_no (X := 0) h hno)
  clear h hno
  go_enter Try.func46, Try.ntmps46
  go_wp2_with (go_at_call 78; refine HA.out.mono ?_; rintro e w9 ⟨rfl, rfl⟩)
  go_ret2
  exact ⟨rfl, rfl⟩
set_option maxRecDepth 100000 in
theorem rasRow_yes {Y W H p i : Nat} (h : RasAt w r g b (W : Int) (H : Int) true) (hm : BufAt w b g d l) (hW1 : 0 < W) (hY : Y < H) (hp : Y * W = p) (hi : 4 * p = i) (hp1 : p ≤ 1073741824) (hW : W ≤ 16384) (hH : H ≤ 16384) (hl : i + 4 * W ≤ l.length) (hs : l.length ≤ 1099511627776) :
    Calls Try.prog 46 #[.pointer (some ⟨r, 0, none⟩), .int .i64 (Y : Int)] w fun e w' => e = .returned (.tuple #[.string (strOf ((l.drop i).take (4 * W))), .bool true]) ∧ ∃ n, w' = w.drewN n := by
  have HA0 := rasAt_yes (X := 0) h hW1 hY hp (show 4 * (p + 0) = i by omega) hp1 hW hH
  rw [show ((0 : Nat) : Int) = 0 from rfl] at HA0
  have HA := Lib.hid HA0
  have c1 := h.w_
  have c3 := h.b_
  have HG0 := bufGet_yes (i := i) (n := 4 * W) hm hl hs
  rw [show ((4 * W : Nat) : Int) = 4 * (W : Int) by omega] at HG0
  obtain ⟨s, hsq⟩ : ∃ s, s = strOf ((l.drop i).take (4 * W)) := ⟨_, rfl⟩
  rw [← hsq] at HG0 ⊢
  have HG : Hid (∀ m, Calls Try.prog 81 #[.pointer (some ⟨b, 0, none⟩), .int .i64 (i : Int), .int .i64 (4 * (W : Int))] (w.drewN m) fun e w' => e = .returned (.tuple #[.string s, .bool true]) ∧ w.drewN m = w') := Lib.hid (fun m => by
    have := bufGet_yes (i := i) (n := 4 * W) (⟨hm.blk.drewN m, hm.row.drewN m⟩ : BufAt (w.drewN m) b g d l) hl hs
    rw [show ((4 * W : Nat) : Int) = 4 * (W : Int) by omega, ← hsq] at this
    exact this)
  clear h hm hp hi hl hsq HG0 HA0 hp1 hs
  go_enter Try.func46, Try.ntmps46
  go_wp2_with (go_at_call 78; refine HA.out.mono ?_; rintro e w9 ⟨rfl, rfl⟩)
  go_quiet (first | (go_at_call 81; exact Calls.quiet_of_same ((HG.out _).mono fun _ _ ⟨h, k⟩ => ⟨h, k.symm⟩)))
  go_wp2_with fail
  go_ret2
  exact ⟨rfl, _, rfl⟩
theorem RasAt.shut {W H : Int} {o : Bool} (h : RasAt w r g b W H o) : RasAt (w.setCell ⟨r, 4, none⟩ (.bool false)) r g b W H false := (Blk.set_ h 4 _).eq_ rfl
theorem rasFree_no {W H : Int} (h : RasAt w r g b W H false) : Calls Try.prog 53 #[.pointer (some ⟨r, 0, none⟩)] w fun e w' => e = .returned (.bool false) ∧ w = w' := by
  have c4 := h.o_
  clear h
  go_enter Try.func53, Try.ntmps53
  go_wp2_with fail
  go_ret
  exact ⟨rfl, rfl⟩
theorem rasFree_yes {W H : Int} (h : RasAt w r g b W H true) (hm : BufAt w b g d l) (k : LedAt w g x) (ok : x.Ok) (e : x.give l.length = (y, true)) :
    Calls Try.prog 53 #[.pointer (some ⟨r, 0, none⟩)] w fun e w' => e = .returned (.bool true) ∧ RasAt w' r g b W H false ∧ BufOff w' b g ∧ LedAt w' g y ∧ Turn [r, b, g] w w' := by
  have hrb : r ≠ b := Blk.ne_ h hm.blk (by decide)
  have hrd : r ≠ d := Blk.ne_ h hm.row (by decide)
  have hrg : r ≠ g := Blk.ne_ h k (by decide)
  have M1 : BufAt (w.setCell ⟨r, 4, none⟩ (.bool false)) b g d l := ⟨Blk.far hm.blk (p := ⟨r, 4, none⟩) hrb.symm _, Blk.far hm.row (p := ⟨r, 4, none⟩) hrd.symm _⟩
  have K1 : LedAt (w.setCell ⟨r, 4, none⟩ (.bool false)) g x := Blk.far k (p := ⟨r, 4, none⟩) hrg.symm _
  have T1 : Turn [r, b, g] w (w.setCell ⟨r, 4, none⟩ (.bool false)) := (Turn.refl _ _).set_ 4 _ (.inl (by simp))
  have HF := Lib.hid (bufFree_first M1 K1 ok e)
  have HP := Lib.hid h.shut
  have HT := Lib.hid T1
  have c3 := h.b_
  have c4 := h.o_
  have z4 := Blk.frozen h 4
  clear h hm k ok e M1 K1 T1
  go_enter Try.func53, Try.ntmps53
  go_wp2_with (go_at_call 85; refine HF.out.mono ?_; rintro e w2 ⟨rfl, o2, l2, t2⟩)
  go_ret
  exact ⟨rfl, Blk.turn HP.out t2 (by simp [hrb, hrg]), o2, l2, HT.out.trans (t2.mono (by simp))⟩
set_option maxRecDepth 100000 in
theorem rasImage_no {W H : Int} (h : RasAt w r g b W H false) : Calls Try.prog 51 #[.pointer (some ⟨r, 0, none⟩)] w fun e w' => e = .returned (.tuple #[.agg #[.int .i64 0, .int .i64 0, .slice none 0 0], .bool false]) ∧ Below w.heap.size w w' := by
  have h1 : RasAt (w.alloc (.cells #[.int .i64 0, .int .i64 0, .slice none 0 0] 46)) r g b W H false := Blk.alloc h _
  have c4 := h1.o_
  clear h h1
  go_enter Try.func51, Try.ntmps51
  go_wp2_with fail
  exact bodyPost_ret (v := .tuple #[.agg #[.int .i64 0, .int .i64 0, .slice none 0 0], .bool false]) (by simp [results, Try.results51, go_sem]) rfl ⟨rfl, (Below.refl _ _).alloc (Nat.le_refl _) _⟩
set_option maxRecDepth 100000 in
set_option maxHeartbeats 1000000 in
theorem rasImage_yes {W H : Int} (h : RasAt w r g b W H true) (hm : BufAt w b g d l) : Calls Try.prog 51 #[.pointer (some ⟨r, 0, none⟩)] w fun e w' => e = .returned (.tuple #[.agg #[.int .i64 W, .int .i64 H, .slice (some ⟨d, 0, none⟩) l.length l.length], .bool true]) ∧ RasAt w' r g b W H false ∧ BufOff w' b g ∧ Blk w' d 5 (C8 l).toArray ∧ Turn [r, b] w w' := by
  have hrb : r ≠ b := Blk.ne_ h hm.blk (by decide)
  have hrd : r ≠ d := Blk.ne_ h hm.row (by decide)
  have hbd := hm.bd
  obtain ⟨wA, hwA⟩ : ∃ wA, wA = w.alloc (.cells #[.int .i64 0, .int .i64 0, .slice none 0 0] 46) := ⟨_, rfl⟩
  have h1 : RasAt wA r g b W H true := hwA ▸ Blk.alloc h _
  have m1 : BufAt wA b g d l := hwA ▸ ⟨hm.blk.alloc _, hm.row.alloc _⟩
  have t1 : Turn [r, b] w wA := hwA ▸ (Turn.refl _ _).alloc _
  have I1 : Blk wA w.heap.size 46 #[.int .i64 0, .int .i64 0, .slice none 0 0] := hwA ▸ Blk.new _ _ _
  have hri : r ≠ w.heap.size := Nat.ne_of_lt (Blk.lt h)
  have hbi : b ≠ w.heap.size := Nat.ne_of_lt (Blk.lt hm.blk)
  have hdi : d ≠ w.heap.size := Nat.ne_of_lt (Blk.lt hm.row)
  have m2 : BufAt (wA.setCell ⟨r, 4, none⟩ (.bool false)) b g d l := ⟨Blk.far m1.blk (p := ⟨r, 4, none⟩) hrb.symm _, Blk.far m1.row (p := ⟨r, 4, none⟩) hrd.symm _⟩
  have I2 : Blk (wA.setCell ⟨r, 4, none⟩ (.bool false)) w.heap.size 46 #[.int .i64 0, .int .i64 0, .slice none 0 0] := Blk.far I1 (p := ⟨r, 4, none⟩) hri.symm _
  have HO := Lib.hid (bufOut_first m2)
  have HP := Lib.hid h1.shut
  have HT := Lib.hid (t1.set_ (g := r) 4 (.bool false) (.inl (by simp)))
  have HI := Lib.hid I2
  have HD := Lib.hid m2.row
  have c3 := h1.b_
  have c4 := h1.o_
  have z4 := Blk.frozen h1 4
  clear h hm h1 m1 t1 I1 m2 I2
  subst hwA
  go_enter Try.func51, Try.ntmps51
  go_wp2_with (go_at_call 84; refine HO.out.mono ?_; rintro e w2 ⟨rfl, o2, t2⟩; have R2 : RasAt w2 r g b W H false := Blk.turn HP.out t2 (not_mem_one hrb); have J2 := Blk.turn HI.out t2 (not_mem_one hbi.symm); have D2 := Blk.turn HD.out t2 (not_mem_one hbd.symm); have k1 := R2.w_; have k2 := R2.h_; have j0 : w2.cell? ⟨w.heap.size, 0, none⟩ = some (.int .i64 0) := Blk.cell J2 0; have j1 : w2.cell? ⟨w.heap.size, 1, none⟩ = some (.int .i64 0) := Blk.cell J2 1; have j2 : w2.cell? ⟨w.heap.size, 2, none⟩ = some (.slice none 0 0) := Blk.cell J2 2; have jz0 := Blk.frozen J2 0; have jz1 := Blk.frozen J2 1; have jz2 := Blk.frozen J2 2; have jl := Blk.lt J2)
  go_region
  all_goals go_wp2_with fail
  have J9 : Blk (((w2.setCell ⟨w.heap.size, 0, none⟩ (.int .i64 W)).setCell ⟨w.heap.size, 1, none⟩ (.int .i64 H)).setCell ⟨w.heap.size, 2, none⟩ (.slice (some ⟨d, 0, none⟩) l.length l.length)).drew w.heap.size 46 #[.int .i64 W, .int .i64 H, .slice (some ⟨d, 0, none⟩) l.length l.length] := Blk.drew (((Blk.set_ J2 0 _).set_ 1 _).set_ 2 _)
  have R9 : RasAt (((w2.setCell ⟨w.heap.size, 0, none⟩ (.int .i64 W)).setCell ⟨w.heap.size, 1, none⟩ (.int .i64 H)).setCell ⟨w.heap.size, 2, none⟩ (.slice (some ⟨d, 0, none⟩) l.length l.length)).drew r g b W H false := Blk.drew (Blk.far (Blk.far (Blk.far R2 (p := ⟨w.heap.size, 0, none⟩) hri _) (p := ⟨w.heap.size, 1, none⟩) hri _) (p := ⟨w.heap.size, 2, none⟩) hri _)
  have O9 : BufOff (((w2.setCell ⟨w.heap.size, 0, none⟩ (.int .i64 W)).setCell ⟨w.heap.size, 1, none⟩ (.int .i64 H)).setCell ⟨w.heap.size, 2, none⟩ (.slice (some ⟨d, 0, none⟩) l.length l.length)).drew b g := Blk.drew (Blk.far (Blk.far (Blk.far o2 (p := ⟨w.heap.size, 0, none⟩) hbi _) (p := ⟨w.heap.size, 1, none⟩) hbi _) (p := ⟨w.heap.size, 2, none⟩) hbi _)
  have D9 : Blk (((w2.setCell ⟨w.heap.size, 0, none⟩ (.int .i64 W)).setCell ⟨w.heap.size, 1, none⟩ (.int .i64 H)).setCell ⟨w.heap.size, 2, none⟩ (.slice (some ⟨d, 0, none⟩) l.length l.length)).drew d 5 (C8 l).toArray := Blk.drew (Blk.far (Blk.far (Blk.far D2 (p := ⟨w.heap.size, 0, none⟩) hdi _) (p := ⟨w.heap.size, 1, none⟩) hdi _) (p := ⟨w.heap.size, 2, none⟩) hdi _)
  have T9 : Turn [r, b] w (((w2.setCell ⟨w.heap.size, 0, none⟩ (.int .i64 W)).setCell ⟨w.heap.size, 1, none⟩ (.int .i64 H)).setCell ⟨w.heap.size, 2, none⟩ (.slice (some ⟨d, 0, none⟩) l.length l.length)).drew := ((((HT.out.trans (t2.mono (by simp))).set_ (g := w.heap.size) 0 _ (.inr (Nat.le_refl _))).set_ (g := w.heap.size) 1 _ (.inr (Nat.le_refl _))).set_ (g := w.heap.size) 2 _ (.inr (Nat.le_refl _))).drew
  change bodyPost _ _ _ _ _ (((w2.setCell ⟨w.heap.size, 0, none⟩ (.int .i64 W)).setCell ⟨w.heap.size, 1, none⟩ (.int .i64 H)).setCell ⟨w.heap.size, 2, none⟩ (.slice (some ⟨d, 0, none⟩) l.length l.length)).drew
  generalize (((w2.setCell ⟨w.heap.size, 0, none⟩ (.int .i64 W)).setCell ⟨w.heap.size, 1, none⟩ (.int .i64 H)).setCell ⟨w.heap.size, 2, none⟩ (.slice (some ⟨d, 0, none⟩) l.length l.length)).drew = we at J9 R9 O9 D9 T9 ⊢
  have q0 : we.cell? ⟨w.heap.size, 0, none⟩ = some (.int .i64 W) := Blk.cell J9 0
  have q1 : we.cell? ⟨w.heap.size, 1, none⟩ = some (.int .i64 H) := Blk.cell J9 1
  have q2 : we.cell? ⟨w.heap.size, 2, none⟩ = some (.slice (some ⟨d, 0, none⟩) l.length l.length) := Blk.cell J9 2
  exact bodyPost_ret (v := .tuple #[.agg #[.int .i64 W, .int .i64 H, .slice (some ⟨d, 0, none⟩) l.length l.length], .bool true]) (by simp [results, Try.results51, go_sem, q0, q1, q2]) rfl ⟨rfl, R9, O9, D9, T9⟩
end
end Go.Proofs.Ytfgcbhcfekonnaa
