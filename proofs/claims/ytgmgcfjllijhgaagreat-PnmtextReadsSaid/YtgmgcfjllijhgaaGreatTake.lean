/- A source's Take; a pixel's change that the budget refuses; a fault's box. -/
import Derived.Test.YtgmgcfjllijhgaaGreatBits
import Derived.Test.YtgmgcfjllijhgaaGreatRas
namespace Go.Proofs.YtgmgcfjllijhgaaGreat
open Go.RowKit
set_option linter.unusedVariables false
set_option linter.unusedSimpArgs false

set_option maxRecDepth 100000 in
set_option maxHeartbeats 1000000 in
/-- a pixel's change that the budget refuses -/
theorem rasSet_spent {w : World} {r g b d : Nat} {l : List UInt8} {x y : Led} {X Y W H p i : Nat} {c0 c1 c2 c3 : UInt8} (h : RasAt w r g b (W : Int) (H : Int) true) (hm : BufAt w b g d l) (hL : LedAt w g x) (ok : x.Ok) (he : x.work 1 = (y, false)) (hX : X < W) (hY : Y < H) (hp : Y * W = p) (hi : 4 * (p + X) = i) (hp1 : p ≤ 1073741824) (hW : W ≤ 16384) (hH : H ≤ 16384) (hl : i + 4 ≤ l.length) (hs : l.length ≤ 1099511627776) :
    Calls Tryz.prog 69 #[.pointer (some ⟨r, 0, none⟩), .int .i64 (X : Int), .int .i64 (Y : Int), .agg #[.int .u8 (c0.toNat : Int), .int .u8 (c1.toNat : Int), .int .u8 (c2.toNat : Int), .int .u8 (c3.toNat : Int)]] w fun e w' => e = .returned (.bool false) ∧ LedAt w' g y ∧ Turn [g] w w' := by
  have hbg := hm.bg hL
  have hdg := hm.dg hL
  have hbd := hm.bd
  have hrg : r ≠ g := Blk.ne_ h hL (by decide)
  have hrd : r ≠ d := Blk.ne_ h hm.row (by decide)
  obtain ⟨wb, hwb⟩ : ∃ wb, wb = w.alloc (.cells #[.int .u8 (c0.toNat : Int), .int .u8 (c1.toNat : Int), .int .u8 (c2.toNat : Int), .int .u8 (c3.toNat : Int)] 59) := ⟨_, rfl⟩
  have h1 : RasAt wb r g b (W : Int) (H : Int) true := hwb ▸ Blk.alloc h _
  have m1 : BufAt wb b g d l := hwb ▸ ⟨hm.blk.alloc _, hm.row.alloc _⟩
  have l1 : LedAt wb g x := hwb ▸ Blk.alloc hL _
  have k1 : CB wb w.heap.size c0.toNat c1.toNat c2.toNat c3.toNat := hwb ▸ Blk.new _ _ _
  have t1 : Turn [g] w wb := hwb ▸ (Turn.refl _ _).alloc _
  have hgl := Blk.lt hL
  have HA := Lib.hid (rasAt_yes h1 hX hY hp hi hp1 hW hH)
  have HR := Lib.hid h1
  have HM := Lib.hid m1
  have HL := Lib.hid l1
  have HK := Lib.hid k1
  have HT := Lib.hid t1
  have HOK := Lib.hid ok
  have HE := Lib.hid he
  have HLL := Lib.hid hl
  have d0 := h1.l
  rw [hwb] at HA HR HM HL HK HT d0
  obtain ⟨i0, i1, i2, i3⟩ := idx4 (.int .u8 (c0.toNat : Int)) (.int .u8 (c1.toNat : Int)) (.int .u8 (c2.toNat : Int)) (.int .u8 (c3.toNat : Int))
  obtain ⟨j1, hj1⟩ : ∃ j, j = i + 1 := ⟨_, rfl⟩
  obtain ⟨j2, hj2⟩ : ∃ j, j = i + 2 := ⟨_, rfl⟩
  obtain ⟨j3, hj3⟩ : ∃ j, j = i + 3 := ⟨_, rfl⟩
  have e1 : (i : Int) + 1 = (j1 : Int) := by omega
  have e2 : (i : Int) + 2 = (j2 : Int) := by omega
  have e3 : (i : Int) + 3 = (j3 : Int) := by omega
  have hib : i ≤ 1099511627776 := by omega
  have HJ := Lib.hid (And.intro hj1 (And.intro hj2 hj3))
  have rl := Blk.lt h
  clear h hm hL ok he h1 m1 l1 k1 t1 hp hi hl hwb hj1 hj2 hj3
  go_enter Tryz.func69, Tryz.ntmps69
  go_wp2_with (first
    | (go_at_call 90; refine HA.out.mono ?_; rintro e w9 ⟨rfl, rfl⟩)
    | (go_at_call 91; refine (work_at HL.out HOK.out HE.out).mono ?_; rintro e w1 ⟨rfl, l2, b1⟩; have t2 : Turn [g] _ w1 := Turn.of_grown b1 (by simp); have R2 : RasAt w1 r g b (W : Int) (H : Int) true := Blk.turn HR.out t2 (by simpa using hrg); have M2 : BufAt w1 b g d l := HM.out.turn t2 (by simpa using hbg) (by simpa using hdg); have K2 : CB w1 w.heap.size c0.toNat c1.toNat c2.toNat c3.toNat := Blk.turn HK.out t2 (by simp; omega); have T2 : Turn [g] w w1 := HT.out.trans t2))
  go_ret
  exact ⟨rfl, l2, T2⟩
/-- a fault's box -/
def fl3 (k f a : Int) : Array Value := #[.int .i64 k, .int .i64 f, .int .i64 a]
def FB (w : World) (b : Nat) (k f a : Int) : Prop := Blk w b 34 (fl3 k f a)
def st3 (w : World) (b : Nat) (u v x : Value) : World := ((w.setCell ⟨b, 0, none⟩ u).setCell ⟨b, 1, none⟩ v).setCell ⟨b, 2, none⟩ x
section
variable {w w' a : World} {b g : Nat} {k f i k' f' i' : Int} {t : TypeId} {cs : Array Value} {u v x : Value} {S : List Nat}
theorem FB.new (w : World) : FB (w.alloc (.cells #[.int .i64 0, .int .i64 0, .int .i64 0] 34)) w.heap.size 0 0 0 := Blk.new _ _ _
theorem FB.st3 (h : FB w b k f i) : FB (st3 w b (.int .i64 k') (.int .i64 f') (.int .i64 i')) b k' f' i' := ((Blk.set_ (Blk.set_ (Blk.set_ h 0 _) 1 _) 2 _)).eq_ (by simp [fl3])
theorem FB.all (h : FB w b k f i) : w.cell? ⟨b, 0, none⟩ = some (.int .i64 k) ∧ w.cell? ⟨b, 1, none⟩ = some (.int .i64 f) ∧ w.cell? ⟨b, 2, none⟩ = some (.int .i64 i) ∧ w.frozen? ⟨b, 0, none⟩ = false ∧ w.frozen? ⟨b, 1, none⟩ = false ∧ w.frozen? ⟨b, 2, none⟩ = false ∧ b < w.heap.size :=
  ⟨Blk.cell h 0, Blk.cell h 1, Blk.cell h 2, Blk.frozen h 0, Blk.frozen h 1, Blk.frozen h 2, Blk.lt h⟩
theorem FB.turn (h : FB w b k f i) (t : Turn S w w') (hb : b ∉ S) : FB w' b k f i := Blk.turn h t hb
theorem FB.below (h : FB w b k f i) (t : Below w.heap.size w w') : FB w' b k f i := Blk.below h t (Blk.lt h)
theorem Blk.st3 (h : Blk w g t cs) (hb : g ≠ b) : Blk (st3 w b u v x) g t cs := Blk.far (Blk.far (Blk.far h (p := ⟨b, 0, none⟩) hb _) (p := ⟨b, 1, none⟩) hb _) (p := ⟨b, 2, none⟩) hb _
theorem Turn.st3 (h : Turn S a w) (hb : b ∈ S ∨ a.heap.size ≤ b) : Turn S a (st3 w b u v x) := ((h.set_ 0 u hb).set_ 1 v hb).set_ 2 x hb
end
end Go.Proofs.YtgmgcfjllijhgaaGreat
