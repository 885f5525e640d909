/- A source's Take; a pixel's change that the budget refuses; a fault's box. farbfeld: a number of bytes, the highest first; what is wrong with a head; a sample. farbfeld: what is wrong with a head. farbfeld: Sides. farbfeld: the pixels. The document's Be and Bad. The document's check of a farbfeld head, and Sides. The document's Sides of a farbfeld file. Plain: small words of decoders: a byte as a number, steps of work, what is wrong first. Four bytes, the highest first; boxes of what a head tells beside a fault. Plain: a file of PCX's, as a decoder takes it; what it tells in the end. Plain: a file of TGA's, its head: what is wrong first, what it tells. -/
import Derived.Test.YtccldalagbfmhaaGreatMBits
import Derived.Test.YtccldalagbfmhaaGreatMRas
import Derived.Test.YtccldalagbfmhaaGreatMScaler
import Derived.Test.YtccldalagbfmhaaGreatMSync
import Derived.Test.YtccldalagbfmhaaGreatMBuf
import Derived.Deep.RegionHeld3
import Derived.Test.YtccldalagbfmhaaGreatMDecLaw
import Derived.Test.YtccldalagbfmhaaGreatMCols
namespace Go.Proofs.YtccldalagbfmhaaGreat
open Go.RowKit
set_option linter.unusedVariables false
set_option linter.unusedSimpArgs false

theorem take_yes {w : World} {p g f t a : Nat} {s : ByteArray} {x y : Led} (n : Nat) (h : SrcAt w p g s f t a) (o : SrcOk s f t a) (k : LedAt w g x) (ok : x.Ok) (e : x.work 1 = (y, true)) (hn : a + n ≤ t) :
    Calls Tryz.prog 90 #[.pointer (some ⟨p, 0, none⟩), .int .i64 (n : Int)] w fun e w' => e = .returned (.tuple #[.string (s.extract a (a + n)), .bool true]) ∧ SrcAt w' p g s f t (a + n) ∧ LedAt w' g y ∧ Turn [p, g] w w' := by
  have HN := Lib.hid (srcNext_yes n h o k ok e hn)
  clear h k ok e
  go_enter Tryz.func90, Tryz.ntmps90
  go_wp2_with (go_at_call 164; refine HN.out.mono ?_; rintro e w1 ⟨rfl, q1, q2, q3⟩)
  go_ret2
  exact ⟨rfl, q1, q2, q3⟩
theorem take_short {w : World} {p g f t a : Nat} {s : ByteArray} {x y : Led} (n : Int) (h : SrcAt w p g s f t a) (o : SrcOk s f t a) (k : LedAt w g x) (ok : x.Ok) (e : x.work 1 = (y, true)) (hn : n < 0 ∨ (t : Int) - a < n) :
    Calls Tryz.prog 90 #[.pointer (some ⟨p, 0, none⟩), .int .i64 n] w fun e w' => e = .returned (.tuple #[.string ⟨#[]⟩, .bool false]) ∧ SrcAt w' p g s f t a ∧ LedAt w' g y ∧ Turn [p, g] w w' := by
  have HN := Lib.hid (srcNext_short n h o k ok e hn)
  clear h k ok e
  go_enter Tryz.func90, Tryz.ntmps90
  go_wp2_with (go_at_call 164; refine HN.out.mono ?_; rintro e w1 ⟨rfl, q1, q2, q3⟩)
  go_ret2
  exact ⟨rfl, q1, q2, q3⟩
theorem take_spent {w : World} {p g f t a : Nat} {s : ByteArray} {x y : Led} (n : Int) (h : SrcAt w p g s f t a) (k : LedAt w g x) (ok : x.Ok) (e : x.work 1 = (y, false)) :
    Calls Tryz.prog 90 #[.pointer (some ⟨p, 0, none⟩), .int .i64 n] w fun e w' => e = .returned (.tuple #[.string ⟨#[]⟩, .bool false]) ∧ SrcAt w' p g s f t a ∧ LedAt w' g y ∧ Turn [p, g] w w' := by
  have HN := Lib.hid (srcNext_spent n h k ok e)
  clear h k ok e
  go_enter Tryz.func90, Tryz.ntmps90
  go_wp2_with (go_at_call 164; refine HN.out.mono ?_; rintro e w1 ⟨rfl, q1, q2, q3⟩)
  go_ret2
  exact ⟨rfl, q1, q2, q3⟩
set_option maxRecDepth 100000 in
set_option maxHeartbeats 1000000 in
/-- a pixel's change that the budget refuses -/
theorem rasSet_spent {w : World} {r g b d : Nat} {l : List UInt8} {x y : Led} {X Y W H p i : Nat} {c0 c1 c2 c3 : UInt8} (h : RasAt w r g b (W : Int) (H : Int) true) (hm : BufAt w b g d l) (hL : LedAt w g x) (ok : x.Ok) (he : x.work 1 = (y, false)) (hX : X < W) (hY : Y < H) (hp : Y * W = p) (hi : 4 * (p + X) = i) (hp1 : p ≤ 1073741824) (hW : W ≤ 16384) (hH : H ≤ 16384) (hl : i + 4 ≤ l.length) (hs : l.length ≤ 1099511627776) :
    Calls Tryz.prog 159 #[.pointer (some ⟨r, 0, none⟩), .int .i64 (X : Int), .int .i64 (Y : Int), .agg #[.int .u8 (c0.toNat : Int), .int .u8 (c1.toNat : Int), .int .u8 (c2.toNat : Int), .int .u8 (c3.toNat : Int)]] w fun e w' => e = .returned (.bool false) ∧ LedAt w' g y ∧ Turn [g] w w' := by
  have hbg := hm.bg hL
  have hdg := hm.dg hL
  have hbd := hm.bd
  have hrg : r ≠ g := Blk.ne_ h hL (by decide)
  have hrd : r ≠ d := Blk.ne_ h hm.row (by decide)
  obtain ⟨wb, hwb⟩ : ∃ wb, wb = w.alloc (.cells #[.int .u8 (c0.toNat : Int), .int .u8 (c1.toNat : Int), .int .u8 (c2.toNat : Int), .int .u8 (c3.toNat : Int)] 131) := ⟨_, rfl⟩
  have h1 : RasAt wb r g b (W : Int) (H : Int) true := hwb ▸ Blk.alloc h _
  have m1 : BufAt wb b g d l := hwb ▸ ⟨hm.blk.alloc _, hm.row.alloc _⟩
  have l1 : LedAt wb g x := hwb ▸ Blk.alloc hL _
  have k1 : CB wb w.heap.size c0.toNat c1.toNat c2.toNat c3.toNat := hwb ▸ Blk.new _ _ _
  have t1 : Turn [g] w wb := hwb ▸ (Turn.refl _ _).alloc _
  have hgl := Blk.lt hL
  have HA := Lib.hid (rasAt_yes h1 hX hY hp hi hp1 hW hH)
  have HR := Lib.hid h1
  have HM := Lib.hid m1
  have HL := Lib.hid l1
  have HK := Lib.hid k1
  have HT := Lib.hid t1
  have HOK := Lib.hid ok
  have HE := Lib.hid he
  have HLL := Lib.hid hl
  have d0 := h1.l
  rw [hwb] at HA HR HM HL HK HT d0
  obtain ⟨i0, i1, i2, i3⟩ := idx4 (.int .u8 (c0.toNat : Int)) (.int .u8 (c1.toNat : Int)) (.int .u8 (c2.toNat : Int)) (.int .u8 (c3.toNat : Int))
  obtain ⟨j1, hj1⟩ : ∃ j, j = i + 1 := ⟨_, rfl⟩
  obtain ⟨j2, hj2⟩ : ∃ j, j = i + 2 := ⟨_, rfl⟩
  obtain ⟨j3, hj3⟩ : ∃ j, j = i + 3 := ⟨_, rfl⟩
  have e1 : (i : Int) + 1 = (j1 : Int) := by omega
  have e2 : (i : Int) + 2 = (j2 : Int) := by omega
  have e3 : (i : Int) + 3 = (j3 : Int) := by omega
  have hib : i ≤ 1099511627776 := by omega
  have HJ := Lib.hid (And.intro hj1 (And.intro hj2 hj3))
  have rl := Blk.lt h
  clear h hm hL ok he h1 m1 l1 k1 t1 hp hi hl hwb hj1 hj2 hj3
  go_enter Tryz.func159, Tryz.ntmps159
  go_wp2_with (first
    | (go_at_call 208; refine HA.out.mono ?_; rintro e w9 ⟨rfl, rfl⟩)
    | (go_at_call 209; refine (work_at HL.out HOK.out HE.out).mono ?_; rintro e w1 ⟨rfl, l2, b1⟩; have t2 : Turn [g] _ w1 := Turn.of_grown b1 (by simp); have R2 : RasAt w1 r g b (W : Int) (H : Int) true := Blk.turn HR.out t2 (by simpa using hrg); have M2 : BufAt w1 b g d l := HM.out.turn t2 (by simpa using hbg) (by simpa using hdg); have K2 : CB w1 w.heap.size c0.toNat c1.toNat c2.toNat c3.toNat := Blk.turn HK.out t2 (by simp; omega); have T2 : Turn [g] w w1 := HT.out.trans t2))
  go_ret
  exact ⟨rfl, l2, T2⟩
/-- a fault's box -/
def fl3 (k f a : Int) : Array Value := #[.int .i64 k, .int .i64 f, .int .i64 a]
def FB (w : World) (b : Nat) (k f a : Int) : Prop := Blk w b 31 (fl3 k f a)
def st3 (w : World) (b : Nat) (u v x : Value) : World := ((w.setCell ⟨b, 0, none⟩ u).setCell ⟨b, 1, none⟩ v).setCell ⟨b, 2, none⟩ x
section
variable {w w' a : World} {b g : Nat} {k f i k' f' i' : Int} {t : TypeId} {cs : Array Value} {u v x : Value} {S : List Nat}
theorem FB.new (w : World) : FB (w.alloc (.cells #[.int .i64 0, .int .i64 0, .int .i64 0] 31)) w.heap.size 0 0 0 := Blk.new _ _ _
theorem FB.st3 (h : FB w b k f i) : FB (st3 w b (.int .i64 k') (.int .i64 f') (.int .i64 i')) b k' f' i' := ((Blk.set_ (Blk.set_ (Blk.set_ h 0 _) 1 _) 2 _)).eq_ (by simp [fl3])
theorem FB.all (h : FB w b k f i) : w.cell? ⟨b, 0, none⟩ = some (.int .i64 k) ∧ w.cell? ⟨b, 1, none⟩ = some (.int .i64 f) ∧ w.cell? ⟨b, 2, none⟩ = some (.int .i64 i) ∧ w.frozen? ⟨b, 0, none⟩ = false ∧ w.frozen? ⟨b, 1, none⟩ = false ∧ w.frozen? ⟨b, 2, none⟩ = false ∧ b < w.heap.size :=
  ⟨Blk.cell h 0, Blk.cell h 1, Blk.cell h 2, Blk.frozen h 0, Blk.frozen h 1, Blk.frozen h 2, Blk.lt h⟩
theorem FB.turn (h : FB w b k f i) (t : Turn S w w') (hb : b ∉ S) : FB w' b k f i := Blk.turn h t hb
theorem FB.below (h : FB w b k f i) (t : Below w.heap.size w w') : FB w' b k f i := Blk.below h t (Blk.lt h)
theorem Blk.st3 (h : Blk w g t cs) (hb : g ≠ b) : Blk (st3 w b u v x) g t cs := Blk.far (Blk.far (Blk.far h (p := ⟨b, 0, none⟩) hb _) (p := ⟨b, 1, none⟩) hb _) (p := ⟨b, 2, none⟩) hb _
theorem Turn.st3 (h : Turn S a w) (hb : b ∈ S ∨ a.heap.size ≤ b) : Turn S a (st3 w b u v x) := ((h.set_ 0 u hb).set_ 1 v hb).set_ 2 x hb
end
end Go.Proofs.YtccldalagbfmhaaGreat
namespace Go.Proofs.YtccldalagbfmhaaGreat
open Go.RowKit
set_option linter.unusedVariables false
set_option linter.unusedSimpArgs false

end Go.Proofs.YtccldalagbfmhaaGreat
namespace Go.Proofs.YtccldalagbfmhaaGreat
open Go.RowKit
set_option linter.unusedVariables false
set_option linter.unusedSimpArgs false

/-- the box of a fault that is not told yet -/
abbrev FB0 (w : World) (g : Nat) : Prop := Blk w g 31 #[.int .i64 0, .int .i64 0, .int .i64 0]
end Go.Proofs.YtccldalagbfmhaaGreat
namespace Go.Proofs.YtccldalagbfmhaaGreat
open Go.RowKit
set_option linter.unusedVariables false
set_option linter.unusedSimpArgs false

end Go.Proofs.YtccldalagbfmhaaGreat
namespace Go.Proofs.YtccldalagbfmhaaGreat
open Go.RowKit
set_option linter.unusedVariables false
set_option linter.unusedSimpArgs false

/-- a raster whose first k pixels are told -/
def ffL (s : ByteArray) (z k : Nat) : List UInt8 := ffBytes s k ++ List.replicate (z - 4 * k) 0
theorem ffL_len {s : ByteArray} {z k : Nat} (h : 4 * k ≤ z) : (ffL s z k).length = z := by
  unfold ffL
  rw [List.length_append, ffBytes_len, List.length_replicate]
  omega
section
variable {w0 w w' : World} {p g r b d q c f k a a' : Nat} {W H z : Nat} {s : ByteArray} {x y : Led}
end
/-- what the pixels' reading leaves -/
structure FfE (w0 w : World) (p g r b d W H z : Nat) (l : List UInt8) (y : Led) : Prop where
  L : LedAt w g y
  R : RasAt w r g b (W : Int) (H : Int) true
  B : BufAt w b g d l
  len : l.length = z
  ok : y.Ok
  y1 : (z : Int) ≤ y.bytes
  T : Turn [p, g, d] w0 w
end Go.Proofs.YtccldalagbfmhaaGreat
namespace Go.Proofs.YtccldalagbfmhaaGreat
open Go.RowKit
set_option linter.unusedVariables false
set_option linter.unusedSimpArgs false

theorem refBadC (k a : Int) (w : World) : Calls Tryz.prog 67 #[.int .i64 k, .int .i64 a] w fun e w' => e = .returned (.agg #[.int .i64 0, .int .i64 0, .slice none 0 0, .int .i64 k, .int .i64 a]) ∧ Below w.heap.size w w' := by
  go_enter Tryz.func67, Tryz.ntmps67
  go_wp2_with fail
  exact bodyPost_ret (v := .agg #[.int .i64 0, .int .i64 0, .slice none 0 0, .int .i64 k, .int .i64 a]) (by simp [results, Tryz.results67, go_sem]) rfl ⟨rfl, (Below.refl _ _).alloc (Nat.le_refl _) _⟩
/-- the box of a document's image -/
def ri5 (W H : Int) (v : Value) (k a : Int) : Array Value := #[.int .i64 W, .int .i64 H, v, .int .i64 k, .int .i64 a]
def RI (w : World) (b : Nat) (W H : Int) (v : Value) (k a : Int) : Prop := Blk w b 42 (ri5 W H v k a)
def st5 (w : World) (b : Nat) (u0 u1 u2 u3 u4 : Value) : World := ((((w.setCell ⟨b, 0, none⟩ u0).setCell ⟨b, 1, none⟩ u1).setCell ⟨b, 2, none⟩ u2).setCell ⟨b, 3, none⟩ u3).setCell ⟨b, 4, none⟩ u4
section
variable {w w' a : World} {b g : Nat} {W H W' H' k i k' i' : Int} {t : TypeId} {cs : Array Value} {v v' u0 u1 u2 u3 u4 : Value} {S : List Nat} {B : Nat}
theorem RI.new (w : World) : RI (w.alloc (.cells #[.int .i64 0, .int .i64 0, .slice none 0 0, .int .i64 0, .int .i64 0] 42)) w.heap.size 0 0 (.slice none 0 0) 0 0 := Blk.new _ _ _
theorem RI.st5 (h : RI w b W H v k i) : RI (st5 w b (.int .i64 W') (.int .i64 H') v' (.int .i64 k') (.int .i64 i')) b W' H' v' k' i' := ((Blk.set_ (Blk.set_ (Blk.set_ (Blk.set_ (Blk.set_ h 0 _) 1 _) 2 _) 3 _) 4 _)).eq_ (by simp [ri5])
theorem RI.all (h : RI w b W H v k i) : w.cell? ⟨b, 0, none⟩ = some (.int .i64 W) ∧ w.cell? ⟨b, 1, none⟩ = some (.int .i64 H) ∧ w.cell? ⟨b, 2, none⟩ = some v ∧ w.cell? ⟨b, 3, none⟩ = some (.int .i64 k) ∧ w.cell? ⟨b, 4, none⟩ = some (.int .i64 i) ∧ w.frozen? ⟨b, 0, none⟩ = false ∧ w.frozen? ⟨b, 1, none⟩ = false ∧ w.frozen? ⟨b, 2, none⟩ = false ∧ w.frozen? ⟨b, 3, none⟩ = false ∧ w.frozen? ⟨b, 4, none⟩ = false ∧ b < w.heap.size :=
  ⟨Blk.cell h 0, Blk.cell h 1, Blk.cell h 2, Blk.cell h 3, Blk.cell h 4, Blk.frozen h 0, Blk.frozen h 1, Blk.frozen h 2, Blk.frozen h 3, Blk.frozen h 4, Blk.lt h⟩
theorem Blk.st5 (h : Blk w g t cs) (hb : g ≠ b) : Blk (st5 w b u0 u1 u2 u3 u4) g t cs := Blk.far (Blk.far (Blk.far (Blk.far (Blk.far h (p := ⟨b, 0, none⟩) hb _) (p := ⟨b, 1, none⟩) hb _) (p := ⟨b, 2, none⟩) hb _) (p := ⟨b, 3, none⟩) hb _) (p := ⟨b, 4, none⟩) hb _
theorem Below.st5 (h : Below B a w) (hb : B ≤ b) : Below B a (st5 w b u0 u1 u2 u3 u4) := below_set (below_set (below_set (below_set (below_set h hb) hb) hb) hb) hb
end
end Go.Proofs.YtccldalagbfmhaaGreat
namespace Go.Proofs.YtccldalagbfmhaaGreat
open Go.RowKit
set_option linter.unusedVariables false
set_option linter.unusedSimpArgs false

end Go.Proofs.YtccldalagbfmhaaGreat
namespace Go.Proofs.YtccldalagbfmhaaGreat
open Go.RowKit
set_option linter.unusedVariables false
set_option linter.unusedSimpArgs false

end Go.Proofs.YtccldalagbfmhaaGreat
namespace Go.Proofs.YtccldalagbfmhaaGreat
set_option linter.unusedVariables false

def b8 (s : ByteArray) (i : Nat) : UInt8 := UInt8.ofNat (bat s i)
theorem b8_int (s : ByteArray) (i : Nat) : ((b8 s i).toNat : Int) = (bat s i : Int) := ofNat8 (bat_lt s i)
theorem give_bal {e z k a : Nat} (hk : k ≠ 4) (ha : a ≤ e) : (Dec.give z (.fin (.bad k a))).bal e z := ⟨Nat.le_refl _, by omega, hk, ha⟩
/-- the first of what is wrong -/
def firstBad (L : List (Bool × Nat × Nat)) : Option (Nat × Nat) := (L.find? (·.1)).map (·.2)
theorem firstBad_none {L : List (Bool × Nat × Nat)} (h : firstBad L = none) : ∀ x ∈ L, x.1 = false := by
  unfold firstBad at h
  rw [Option.map_eq_none_iff, List.find?_eq_none] at h
  intro x hx
  simpa using h x hx
theorem firstBad_at {L : List (Bool × Nat × Nat)} {i : Nat} {f : Nat × Nat} (hb : ∀ j, j < i → (L[j]?.map (·.1)) = some false) (h : L[i]? = some (true, f)) : firstBad L = some f := by
  induction L generalizing i with
  | nil => simp at h
  | cons x L ih =>
    cases i with
    | zero =>
      have hx : x = (true, f) := by simpa using h
      subst hx
      rfl
    | succ i =>
      have h0 : x.1 = false := by simpa using hb 0 (by omega)
      have e : firstBad (x :: L) = firstBad L := by unfold firstBad; rw [List.find?_cons, h0]
      rw [e]
      exact ih (i := i) (fun j hj => by simpa using hb (j + 1) (by omega)) (by simpa using h)
theorem firstBad_all {L : List (Bool × Nat × Nat)} (h : ∀ x ∈ L, x.1 = false) : firstBad L = none := by
  unfold firstBad
  rw [Option.map_eq_none_iff, List.find?_eq_none]
  intro x hx
  simp [h x hx]
theorem int_beq0 (n : Nat) : ((n : Int) == 0) = decide (n = 0) := by
  rw [Bool.eq_iff_iff, decide_eq_true_iff, beq_iff_eq]
  omega
theorem give_zero {x : Led} (h : 0 ≤ x.bytes) : (x.give ((0 : Nat) : Int)).1 = x := by
  rw [led_give_yes (by omega) (by omega)]
  cases x; simp
theorem give_give {x : Led} {m n : Nat} (h : (m : Int) + n ≤ x.bytes) : ((x.give (m : Int)).1.give (n : Int)).1 = (x.give ((n + m : Nat) : Int)).1 := by
  rw [led_give_yes (x := x) (n := (m : Int)) (by omega) (by omega), led_give_yes (x := x) (n := ((n + m : Nat) : Int)) (by omega) (by omega), led_give_yes (by omega) (by simp only; omega)]
  cases x
  simp only [Led.mk.injEq, and_true, true_and]
  omega
end Go.Proofs.YtccldalagbfmhaaGreat
namespace Go.Proofs.YtccldalagbfmhaaGreat
open Go.RowKit
set_option linter.unusedVariables false
set_option linter.unusedSimpArgs false

/-- two boxes of results: five numbers (of some type), and a fault -/
structure PF (w0 w : World) (T : TypeId) (p f : Nat) : Prop where
  P : Blk w p T #[.int .i64 0, .int .i64 0, .int .i64 0, .int .i64 0, .int .i64 0]
  F : FB0 w f
  B : Below w0.heap.size w0 w
  np : w0.heap.size ≤ p
  nf : w0.heap.size ≤ f
section
variable {w0 w w' : World} {T : TypeId} {p f : Nat}
theorem PF.below (h : PF w0 w T p f) (b : Below w.heap.size w w') : PF w0 w' T p f := ⟨Blk.below h.P b (Blk.lt h.P), Blk.below h.F b (Blk.lt h.F), below_next h.B b, h.np, h.nf⟩
theorem PF.alloc (h : PF w0 w T p f) (o : Obj) : PF w0 (w.alloc o) T p f := h.below ((Below.refl _ _).alloc (Nat.le_refl _) _)
theorem PF.drew (h : PF w0 w T p f) : PF w0 w.drew T p f := ⟨Blk.drew h.P, Blk.drew h.F, h.B.drew, h.np, h.nf⟩
theorem PF.all (h : PF w0 w T p f) : w.cell? ⟨p, 0, none⟩ = some (.int .i64 0) ∧ w.cell? ⟨p, 1, none⟩ = some (.int .i64 0) ∧ w.cell? ⟨p, 2, none⟩ = some (.int .i64 0) ∧ w.cell? ⟨p, 3, none⟩ = some (.int .i64 0) ∧ w.cell? ⟨p, 4, none⟩ = some (.int .i64 0) ∧ w.frozen? ⟨p, 0, none⟩ = false ∧ w.frozen? ⟨p, 1, none⟩ = false ∧ w.frozen? ⟨p, 2, none⟩ = false ∧ w.frozen? ⟨p, 3, none⟩ = false ∧ w.frozen? ⟨p, 4, none⟩ = false ∧ p < w.heap.size ∧
    w.cell? ⟨f, 0, none⟩ = some (.int .i64 0) ∧ w.cell? ⟨f, 1, none⟩ = some (.int .i64 0) ∧ w.cell? ⟨f, 2, none⟩ = some (.int .i64 0) ∧ w.frozen? ⟨f, 0, none⟩ = false ∧ w.frozen? ⟨f, 1, none⟩ = false ∧ w.frozen? ⟨f, 2, none⟩ = false ∧ f < w.heap.size :=
  ⟨Blk.cell h.P 0, Blk.cell h.P 1, Blk.cell h.P 2, Blk.cell h.P 3, Blk.cell h.P 4, Blk.frozen h.P 0, Blk.frozen h.P 1, Blk.frozen h.P 2, Blk.frozen h.P 3, Blk.frozen h.P 4, Blk.lt h.P, Blk.cell h.F 0, Blk.cell h.F 1, Blk.cell h.F 2, Blk.frozen h.F 0, Blk.frozen h.F 1, Blk.frozen h.F 2, Blk.lt h.F⟩
theorem PF.store (h : PF w0 w T p f) {u0 u1 u2 u3 u4 a b c : Value} : Below w0.heap.size w0 (st3 (st5 w p u0 u1 u2 u3 u4) f a b c) := below_set3 (Below.st5 h.B h.np) h.nf
theorem PF.new (w : World) (T : TypeId) (h : T ≠ 31) : PF w ((w.alloc (.cells #[.int .i64 0, .int .i64 0, .int .i64 0, .int .i64 0, .int .i64 0] T)).alloc (.cells #[.int .i64 0, .int .i64 0, .int .i64 0] 31)) T w.heap.size (w.heap.size + 1) :=
  ⟨Blk.alloc (Blk.new _ _ _) _, Blk.new_at _ _ _ (by simp), ((Below.refl _ _).alloc (Nat.le_refl _) _).alloc (by simp) _, Nat.le_refl _, by omega⟩
end
end Go.Proofs.YtccldalagbfmhaaGreat
namespace Go.Proofs.YtccldalagbfmhaaGreat
set_option linter.unusedVariables false

/-- two bytes, the lowest first -/
def le2 (s : ByteArray) (i : Nat) : Nat := bat s i + 256 * bat s (i + 1)
theorem le2_lt (s : ByteArray) (i : Nat) : le2 s i < 65536 := by
  have h1 := bat_lt s i
  have h2 := bat_lt s (i + 1)
  unfold le2
  omega
def PcxVer (v : Nat) : Prop := v ≤ 5 ∧ v ≠ 1
instance (v : Nat) : Decidable (PcxVer v) := by unfold PcxVer; infer_instance
def PcxPair (b p : Nat) : Prop := (b = 8 ∧ (p = 1 ∨ p = 3)) ∨ (b = 1 ∧ (p = 1 ∨ p = 4))
instance (b p : Nat) : Decidable (PcxPair b p) := by unfold PcxPair; infer_instance
structure PcxHd where
  W : Nat
  H : Nat
  bits : Nat
  planes : Nat
  line : Nat
structure PcxHd.Ok (h : PcxHd) : Prop where
  w1 : 1 ≤ h.W
  w2 : h.W ≤ 16384
  h1 : 1 ≤ h.H
  h2 : h.H ≤ 16384
  pr : PcxPair h.bits h.planes
  l1 : (h.W * h.bits + 7) / 8 ≤ h.line
  l2 : h.line ≤ (h.W * h.bits + 7) / 8 + 3
/-- is there a map at the end? -/
def PcxHd.Map (h : PcxHd) : Prop := h.bits = 8 ∧ h.planes = 1
instance (h : PcxHd) : Decidable h.Map := by unfold PcxHd.Map; infer_instance
def PcxHd.row (h : PcxHd) : Nat := h.planes * h.line
end Go.Proofs.YtccldalagbfmhaaGreat
namespace Go.Proofs.YtccldalagbfmhaaGreat
set_option linter.unusedVariables false

def TgaPacked (k : Nat) : Prop := 9 ≤ k ∧ k ≤ 11
instance (k : Nat) : Decidable (TgaPacked k) := by unfold TgaPacked; infer_instance
def tgaPlain (k : Nat) : Nat := if TgaPacked k then k - 8 else k
def TgaCol (n : Nat) : Prop := n = 15 ∨ n = 16 ∨ n = 24 ∨ n = 32
instance (n : Nat) : Decidable (TgaCol n) := by unfold TgaCol; infer_instance
def TgaKnown (k : Nat) : Prop := (1 ≤ k ∧ k ≤ 3) ∨ TgaPacked k
instance (k : Nat) : Decidable (TgaKnown k) := by unfold TgaKnown; infer_instance
def TgaDepth (k b : Nat) : Prop := if tgaPlain k = 2 then TgaCol b else b = 8
instance (k b : Nat) : Decidable (TgaDepth k b) := by unfold TgaDepth; infer_instance
def TgaAlpha (b n : Nat) : Prop := n = 0 ∨ (b = 32 ∧ n = 8) ∨ (b = 16 ∧ n = 1)
instance (b n : Nat) : Decidable (TgaAlpha b n) := by unfold TgaAlpha; infer_instance
def tgaChks (m t e c W H d f : Nat) : List (Bool × Nat × Nat) := [
  (decide (1 < m), 2, 1), (!decide (TgaKnown t), 3, 2), (decide (tgaPlain t = 1 ∧ m ≠ 1), 2, 1), (decide (m = 1 ∧ ¬ TgaCol e), 3, 7), (decide (m = 1 ∧ c = 0), 2, 5),
  (decide (W = 0), 2, 12), (decide (16384 < W), 3, 12), (decide (H = 0), 2, 14), (decide (16384 < H), 3, 14), (!decide (TgaDepth t d), 3, 16), (decide (64 ≤ f), 3, 17), (!decide (TgaAlpha d (f % 16)), 2, 17)]
def tgaHead (s : ByteArray) : Option (Nat × Nat) := firstBad (tgaChks (bat s 1) (bat s 2) (bat s 7) (le2 s 5) (le2 s 12) (le2 s 14) (bat s 16) (bat s 17))
structure TgaHd where
  name : Nat
  map : Bool
  typ : Nat
  first : Nat
  count : Nat
  entry : Nat
  W : Nat
  H : Nat
  depth : Nat
  alpha : Nat
  left : Bool
  top : Bool
def tgaHd (s : ByteArray) : TgaHd :=
  ⟨bat s 0, decide (bat s 1 = 1), bat s 2, if bat s 1 = 1 then le2 s 3 else 0, if bat s 1 = 1 then le2 s 5 else 0, if bat s 1 = 1 then bat s 7 else 0, le2 s 12, le2 s 14, bat s 16, bat s 17 % 16, decide (bat s 17 / 16 % 2 = 1), decide (bat s 17 / 32 % 2 = 1)⟩
structure TgaHd.Ok (h : TgaHd) : Prop where
  n1 : h.name ≤ 255
  t1 : TgaKnown h.typ
  m1 : tgaPlain h.typ = 1 → h.map = true
  e1 : h.map = true → TgaCol h.entry
  c1 : h.map = true → 1 ≤ h.count
  c2 : h.count ≤ 65535
  f1 : h.first ≤ 65535
  w1 : 1 ≤ h.W
  w2 : h.W ≤ 16384
  h1 : 1 ≤ h.H
  h2 : h.H ≤ 16384
  d1 : TgaDepth h.typ h.depth
  a1 : TgaAlpha h.depth h.alpha
theorem tgaHead_none {s : ByteArray} (h : tgaHead s = none) : (tgaHd s).Ok ∧ bat s 1 ≤ 1 ∧ bat s 17 < 64 := by
  unfold tgaHead at h
  have a := firstBad_none h
  simp only [tgaChks, List.mem_cons, List.not_mem_nil, or_false, forall_eq_or_imp, forall_eq, decide_eq_false_iff_not, Bool.not_eq_false', decide_eq_true_eq] at a
  obtain ⟨a1, a2, a3, a4, a5, a6, a7, a8, a9, a10, a11, a12⟩ := a
  have l3 := le2_lt s 3
  have l5 := le2_lt s 5
  have b0 := bat_lt s 0
  refine ⟨⟨?_, a2, ?_, ?_, ?_, ?_, ?_, ?_, ?_, ?_, ?_, a10, a12⟩, by omega, by omega⟩
  · show bat s 0 ≤ 255; omega
  · intro hp
    show decide (bat s 1 = 1) = true
    rw [decide_eq_true_eq]
    exact Classical.byContradiction fun hn => a3 ⟨hp, hn⟩
  · intro hm
    have hm' : bat s 1 = 1 := by simpa [tgaHd] using hm
    show TgaCol (if bat s 1 = 1 then bat s 7 else 0)
    rw [if_pos hm']
    exact Classical.byContradiction fun hn => a4 ⟨hm', hn⟩
  · intro hm
    have hm' : bat s 1 = 1 := by simpa [tgaHd] using hm
    show 1 ≤ (if bat s 1 = 1 then le2 s 5 else 0)
    rw [if_pos hm']
    omega
  · show (if bat s 1 = 1 then le2 s 5 else 0) ≤ 65535; split <;> omega
  · show (if bat s 1 = 1 then le2 s 3 else 0) ≤ 65535; split <;> omega
  · show 1 ≤ le2 s 12; omega
  · show le2 s 12 ≤ 16384; omega
  · show 1 ≤ le2 s 14; omega
  · show le2 s 14 ≤ 16384; omega
theorem tgaHead_some {s : ByteArray} {f : Nat × Nat} (h : tgaHead s = some f) : f.1 ≠ 0 ∧ f.1 ≠ 4 ∧ f.2 ≤ 17 := by
  unfold tgaHead firstBad at h
  rw [Option.map_eq_some_iff] at h
  obtain ⟨x, hx, rfl⟩ := h
  have hm := List.mem_of_find?_eq_some hx
  simp only [tgaChks, List.mem_cons, List.not_mem_nil, or_false] at hm
  rcases hm with rfl | rfl | rfl | rfl | rfl | rfl | rfl | rfl | rfl | rfl | rfl | rfl <;> exact ⟨by simp, by simp, by simp⟩
def tgaFault (s : ByteArray) : Option (Nat × Nat) := if s.size < 18 then some (1, s.size) else tgaHead s
/-- bytes of a pixel; of a map's entry; the kind of its entries -/
def TgaHd.size (h : TgaHd) : Nat := (h.depth + 7) / 8
def tgaKind (e : Nat) : Nat := if e = 24 then 3 else if e = 32 then 5 else 2
def tgaEntry (e : Nat) : Nat := if e = 24 then 3 else if e = 32 then 4 else 2
def TgaHd.mapped (h : TgaHd) : Prop := tgaPlain h.typ = 1
instance (h : TgaHd) : Decidable h.mapped := by unfold TgaHd.mapped; infer_instance
/-- where a pixel stands -/
def TgaHd.place (h : TgaHd) (k : Nat) : Nat := (if h.top then k / h.W else h.H - 1 - k / h.W) * h.W + (if h.left then h.W - 1 - k % h.W else k % h.W)
theorem TgaHd.place_lt {h : TgaHd} (w1 : 1 ≤ h.W) {k : Nat} (hk : k < h.W * h.H) : h.place k < h.W * h.H := by
  have q : k / h.W < h.H := Nat.div_lt_of_lt_mul hk
  have r : k % h.W < h.W := Nat.mod_lt _ (by omega)
  unfold TgaHd.place
  generalize k / h.W = y at q ⊢
  generalize k % h.W = x at r ⊢
  have hy : (if h.top then y else h.H - 1 - y) + 1 ≤ h.H := by split <;> omega
  have hx : (if h.left then h.W - 1 - x else x) < h.W := by split <;> omega
  have := Nat.mul_le_mul_right h.W hy
  rw [Nat.add_mul, Nat.one_mul, Nat.mul_comm h.H] at this
  omega
end Go.Proofs.YtccldalagbfmhaaGreat
