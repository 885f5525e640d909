/- awake of chapter 7. -/
import Derived.Test.YtfgcbhcfekonnaaRas
import Derived.Deep.RegionHeld3
namespace Go.Proofs.Ytfgcbhcfekonnaa
open Go.RowKit
set_option linter.unusedVariables false
set_option linter.unusedSimpArgs false

section
variable {w : World} {r g b d : Nat} {l : List UInt8} {x y : Led}
set_option maxRecDepth 100000 in
set_option maxHeartbeats 2000000 in
theorem rasFlip21 (h : RasAt w r g b 2 1 true) (hm : BufAt w b g d l) (hL : LedAt w g x) (ok : x.Ok) (he : x.work 1 = (y, true)) (hl : l.length = 8) :
    Calls Try.prog 50 #[.pointer (some ⟨r, 0, none⟩)] w fun e w' => e = .returned (.bool true) ∧ BufAt w' b g d (swapL l 0 4 4) ∧ RasAt w' r g b 2 1 true ∧ LedAt w' g y ∧ Turn [g, d] w w' := by
  have hbg := hm.bg hL
  have hdg := hm.dg hL
  have hrg : r ≠ g := Blk.ne_ h hL (by decide)
  have hrd : r ≠ d := Blk.ne_ h hm.row (by decide)
  have c0 := h.l
  have c1 := h.w_
  have c2 := h.h_
  have c4 := h.o_
  have HR := Lib.hid h
  have HM := Lib.hid hm
  have HL := Lib.hid hL
  have HOK := Lib.hid ok
  have HE := Lib.hid he
  have HLL := Lib.hid hl
  clear h hm hL ok he hl
  go_enter Try.func50, Try.ntmps50
  go_wp2_with fail
  go_region_held3 (fun w' => w'.cell? ⟨r, 0, none⟩ = some (.pointer (some ⟨g, 0, none⟩)) ∧ w'.cell? ⟨r, 1, none⟩ = some (.int .i64 2) ∧ w'.cell? ⟨r, 2, none⟩ = some (.int .i64 1) ∧ w'.cell? ⟨r, 4, none⟩ = some (.bool true))
    (first | exact ⟨c0, c1, c2, c4⟩ | exact ⟨R2.l, R2.w_, R2.h_, R2.o_⟩)
    (first | (go_at_call 79; refine (work_at (w := w.drew) HL.out HOK.out HE.out).mono ?_; rintro e w1 ⟨rfl, l2, b1⟩; have t2 : Turn [g] w.drew w1 := Turn.of_grown b1 (by simp); have R2 : RasAt w1 r g b 2 1 true := Blk.turn (Blk.drew HR.out) t2 (by simpa using hrg)))
  go_wp2_with fail
  have M2 : BufAt w1 b g d l := BufAt.turn ⟨HM.out.blk.drew, HM.out.row.drew⟩ t2 (by simpa using hbg) (by simpa using hdg)
  have T2 : Turn [g, d] w w1 := ((Turn.refl _ _).drew).trans (t2.mono (by simp))
  have HR2 := Lib.hid R2
  have HM2 := Lib.hid M2
  have HL2 := Lib.hid l2
  have HT2 := Lib.hid T2
  clear t2 b1 R2 M2 l2 T2 c0 c1 c2 c4
  have f1 : w1.cell? ⟨r, 1, none⟩ = some (.int .i64 2) := HR2.out.w_
  have f2 : w1.cell? ⟨r, 2, none⟩ = some (.int .i64 1) := HR2.out.h_
  go_loopg [32] 1 (fun k yv wr => (k = 1 ∧ yv = .int .i64 0 ∧ w1 = wr) ∨ (k = 0 ∧ yv = .int .i64 1 ∧ BufAt wr b g d (swapL l 0 4 4) ∧ RasAt wr r g b 2 1 true ∧ LedAt wr g y ∧ Turn [g, d] w wr))
  case atStart => exact .inl ⟨rfl, rfl, rfl⟩
  case round =>
    obtain ⟨rfl, rfl, rfl⟩ | ⟨rfl, rfl, mz, rz, lz, tz⟩ := hrel
    · go_wp2_with fail
      go_loopg [40] 1 (fun k xv wq => (k = 1 ∧ xv = .int .i64 0 ∧ w1 = wq) ∨ (k = 0 ∧ xv = .int .i64 1 ∧ BufAt wq b g d (swapL l 0 4 4) ∧ RasAt wq r g b 2 1 true ∧ LedAt wq g y ∧ Turn [g, d] w wq))
      case atStart => exact .inl ⟨rfl, rfl, rfl⟩
      case round =>
        obtain ⟨rfl, rfl, rfl⟩ | ⟨rfl, rfl, mz, rz, lz, tz⟩ := hrel
        · go_wp2_with fail
          go_region_held3 (fun w' => w'.cell? ⟨r, 1, none⟩ = some (.int .i64 2))
            (first | exact f1 | exact R3.w_)
            (first | (go_at_call 83; refine (rasSwap_yes (w := w1.drew) (a := 0) (c := 4) (n := 4) (l := l) (d := d) (g := g) (b := b) (W := 2) (H := 1) (o := true) (Blk.drew HR2.out) ⟨HM2.out.blk.drew, HM2.out.row.drew⟩ (by rw [HLL.out]; decide) (by rw [HLL.out]; decide) (by rw [HLL.out]; decide) hrd).mono ?_; rintro e w3 ⟨rfl, m3, t3⟩; have R3 : RasAt w3 r g b 2 1 true := Blk.turn (Blk.drew HR2.out) t3 (by simpa using hrd)))
          go_wp2_with fail
          go_roundg 0
          case measure => decide
          case rel => exact .inr ⟨rfl, rfl, m3, R3, LedAt.turn (Blk.drew HL2.out) t3 (by simpa using hdg.symm), HT2.out.drew.trans (t3.mono (by simp))⟩
        · have HMz := Lib.hid mz
          have HRz := Lib.hid rz
          have HLz := Lib.hid lz
          have HTz := Lib.hid tz
          clear mz rz lz tz
          go_wp2_with fail
          go_roundg 0
          case measure => decide
          case rel => exact .inr ⟨rfl, rfl, HMz.out, HRz.out, HLz.out, HTz.out⟩
    · have HMz := Lib.hid mz
      have HRz := Lib.hid rz
      have HLz := Lib.hid lz
      have HTz := Lib.hid tz
      clear mz rz lz tz
      go_wp2_with fail
      go_ret
      exact ⟨rfl, HMz.out, HRz.out, HLz.out, HTz.out⟩
end
theorem notTwo {a b c : Nat} (h1 : a ≠ b) (h2 : a ≠ c) : a ∉ [b, c] := by simp [h1, h2]
def W7 : Led := ⟨2, 1, 8, 9, 0, 0, 0, 0, 0⟩
def W7b : Led := ⟨2, 1, 8, 9, 8, 8, 0, 0, 0⟩
def W7c : Led := ⟨2, 1, 8, 9, 8, 8, 1, 0, 0⟩
def W7d : Led := ⟨2, 1, 8, 9, 8, 8, 2, 0, 0⟩
theorem W7.ok : W7.Ok := by constructor <;> decide
theorem W7b.ok : W7b.Ok := by constructor <;> decide
theorem W7c.ok : W7c.Ok := by constructor <;> decide
theorem ew0 : Led.new 2 1 8 9 = W7 := rfl
theorem ew1 : W7.sides ((2 : Nat) : Int) ((1 : Nat) : Int) = (W7, true) := rfl
theorem ew2 : W7.take ((8 : Nat) : Int) = (W7b, true) := rfl
theorem ew3 : W7b.work 1 = (W7c, true) := rfl
theorem ew4 : W7c.work 1 = (W7d, true) := rfl
def red : List UInt8 := [255, 0, 0, 255]
def L7 : List UInt8 := over (List.replicate 8 0) 0 red
theorem L7_len : L7.length = 8 := by decide
theorem L7_cut : ((swapL L7 0 4 4).drop 4).take 4 = [255, 0, 0, 255] := by decide
theorem L7_len2 : (swapL L7 0 4 4).length = 8 := by decide
theorem awSet7 {w : World} {r g b d : Nat} (h : RasAt w r g b 2 1 true) (hm : BufAt w b g d (List.replicate 8 0)) (hL : LedAt w g W7b) :
    Calls Try.prog 42 #[.pointer (some ⟨r, 0, none⟩), .int .i64 0, .int .i64 0, .agg #[.int .u8 255, .int .u8 0, .int .u8 0, .int .u8 255]] w fun e w' => e = .returned (.bool true) ∧ BufAt w' b g d L7 ∧ LedAt w' g W7c ∧ Turn [g, d] w w' :=
  rasSet_yes (X := 0) (Y := 0) (W := 2) (H := 1) (p := 0) (i := 0) (c0 := 255) (c1 := 0) (c2 := 0) (c3 := 255) h hm hL W7b.ok ew3 (by decide) (by decide) (by decide) (by decide) (by decide) (by decide) (by decide) (by decide) (by decide)
theorem awGet7 {w : World} {r g b d : Nat} (h : RasAt w r g b 2 1 true) (hm : BufAt w b g d (swapL L7 0 4 4)) :
    Calls Try.prog 45 #[.pointer (some ⟨r, 0, none⟩), .int .i64 1, .int .i64 0] w fun e w' => e = .returned (.tuple #[.agg #[.int .u8 255, .int .u8 0, .int .u8 0, .int .u8 255], .bool true]) ∧ Below w.heap.size w w' :=
  rasGet_yes (X := 1) (Y := 0) (W := 2) (H := 1) (p := 0) (i := 4) (c0 := 255) (c1 := 0) (c2 := 0) (c3 := 255) h hm (by decide) (by decide) (by decide) (by decide) (by decide) (by decide) (by decide) (by decide) (by decide) L7_cut
set_option maxRecDepth 100000 in
set_option maxHeartbeats 2000000 in
theorem awake07_any (w : World) : Calls Try.prog 16 #[] w fun e w' => e = .returned (.bool true) ∧ Below w.heap.size w w' := by
  go_enter Try.func16, Try.ntmps16
  go_wp2_with (first
    | (go_at_call 8; refine (ledNew_at ew0 _).mono ?_; rintro e w0 ⟨g, rfl, hgB, h0, b0⟩)
    | (go_at_call 9; refine (rasNew_yes (W := 2) (H := 1) (y := 2) (z := 8) ⟨by decide, by decide⟩ (by decide) (by decide) (by decide) h0 W7.ok ew1 ew2).mono ?_; rintro e w1 ⟨r, b, d, rfl, hr, hb, hd, r1, m1, l1, t1⟩)
    | (go_at_call 42; refine (awSet7 (Blk.alloc r1 _) ⟨m1.blk.alloc _, m1.row.alloc _⟩ (Blk.alloc l1 _)).mono ?_; rintro e w2 ⟨rfl, m2, l2, t2⟩; have r2 : RasAt w2 r g b 2 1 true := Blk.turn (Blk.alloc r1 _) t2 (notTwo (Blk.ne_ r1 l1 (by decide)) (Blk.ne_ r1 m1.row (by decide))); have K2 : CB w2 w1.heap.size 255 0 0 255 := Blk.turn (Blk.new w1 _ _) t2 (notTwo (by have := Blk.lt l1; omega) (by have := Blk.lt m1.row; omega)))
    | (go_at_call 50; refine (rasFlip21 r2 m2 l2 W7c.ok ew4 L7_len).mono ?_; rintro e w3 ⟨rfl, m3, r3, l3, t3⟩; have K3 : CB w3 w1.heap.size 255 0 0 255 := Blk.turn K2 t3 (notTwo (by have := Blk.lt l1; omega) (by have := Blk.lt m1.row; omega)))
    | (go_at_call 45; refine (awGet7 r3 m3).mono ?_; rintro e w4 ⟨rfl, b4⟩; have K4 : CB w4 w1.heap.size 255 0 0 255 := Blk.below K3 b4 (Blk.lt K3); have k0 := K4.c0; have k1 := K4.c1; have k2 := K4.c2; have k3 := K4.c3; have lk := Blk.lt K4; have nk := Nat.ne_of_lt lk))
  go_ret
  have s0 := b0.size
  have z1 := Turn.belowNext b0 t1 (by simp; omega) s0
  have z2 := Turn.belowNext (z1.alloc z1.size _) t2 (by simp; omega) (by have := z1.size; simp; omega)
  have z3 := Turn.belowNext z2 t3 (by simp; omega) z2.size
  have z4 := below_next z3 b4
  exact ⟨rfl, z4.alloc z4.size _⟩
end Go.Proofs.Ytfgcbhcfekonnaa
