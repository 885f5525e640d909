/- A source's Take; a pixel's change that the budget refuses; a fault's box. farbfeld: a number of bytes, the highest first; what is wrong with a head; a sample. farbfeld: what is wrong with a head. farbfeld: Sides. farbfeld: the pixels. The document's Be and Bad. The document's check of a farbfeld head, and Sides. The document's Sides of a farbfeld file. Plain: small words of decoders: a byte as a number, steps of work, what is wrong first. Four bytes, the highest first; boxes of what a head tells beside a fault. Plain: a file of PCX's, as a decoder takes it; what it tells in the end. Plain: a file of TGA's, its head: what is wrong first, what it tells. tgahead: the small words: packed, plain, colors, depth, alpha, word. -/
import Derived.Test.YtlehkgkomjojmaaGreatGBits
import Derived.Test.YtlehkgkomjojmaaGreatGRas
import Derived.Test.YtlehkgkomjojmaaGreatGScaler
import Derived.Test.YtlehkgkomjojmaaGreatGSync
import Derived.Test.YtlehkgkomjojmaaGreatGBuf
import Derived.Deep.RegionHeld3
import Derived.Test.YtlehkgkomjojmaaGreatGNum
namespace Go.Proofs.YtlehkgkomjojmaaGreat
open Go.RowKit
set_option linter.unusedVariables false
set_option linter.unusedSimpArgs false

theorem take_yes {w : World} {p g f t a : Nat} {s : ByteArray} {x y : Led} (n : Nat) (h : SrcAt w p g s f t a) (o : SrcOk s f t a) (k : LedAt w g x) (ok : x.Ok) (e : x.work 1 = (y, true)) (hn : a + n ≤ t) :
  Calls Tryz.prog 82 #[.pointer (some ⟨p, 0, none⟩), .int .i64 (n : Int)] w fun e w' => e = .returned (.tuple #[.string (s.extract a (a + n)), .bool true]) ∧ SrcAt w' p g s f t (a + n) ∧ LedAt w' g y ∧ Turn [p, g] w w' := by
 have HN := Lib.hid (srcNext_yes n h o k ok e hn)
 clear h k ok e
 go_enter Tryz.func82, Tryz.ntmps82
 go_wp2_with (go_at_call 133; refine HN.out.mono ?_; rintro e w1 ⟨rfl, q1, q2, q3⟩)
 go_ret2
 exact ⟨rfl, q1, q2, q3⟩
theorem take_short {w : World} {p g f t a : Nat} {s : ByteArray} {x y : Led} (n : Int) (h : SrcAt w p g s f t a) (o : SrcOk s f t a) (k : LedAt w g x) (ok : x.Ok) (e : x.work 1 = (y, true)) (hn : n < 0 ∨ (t : Int) - a < n) :
  Calls Tryz.prog 82 #[.pointer (some ⟨p, 0, none⟩), .int .i64 n] w fun e w' => e = .returned (.tuple #[.string ⟨#[]⟩, .bool false]) ∧ SrcAt w' p g s f t a ∧ LedAt w' g y ∧ Turn [p, g] w w' := by
 have HN := Lib.hid (srcNext_short n h o k ok e hn)
 clear h k ok e
 go_enter Tryz.func82, Tryz.ntmps82
 go_wp2_with (go_at_call 133; refine HN.out.mono ?_; rintro e w1 ⟨rfl, q1, q2, q3⟩)
 go_ret2
 exact ⟨rfl, q1, q2, q3⟩
theorem take_spent {w : World} {p g f t a : Nat} {s : ByteArray} {x y : Led} (n : Int) (h : SrcAt w p g s f t a) (k : LedAt w g x) (ok : x.Ok) (e : x.work 1 = (y, false)) :
  Calls Tryz.prog 82 #[.pointer (some ⟨p, 0, none⟩), .int .i64 n] w fun e w' => e = .returned (.tuple #[.string ⟨#[]⟩, .bool false]) ∧ SrcAt w' p g s f t a ∧ LedAt w' g y ∧ Turn [p, g] w w' := by
 have HN := Lib.hid (srcNext_spent n h k ok e)
 clear h k ok e
 go_enter Tryz.func82, Tryz.ntmps82
 go_wp2_with (go_at_call 133; refine HN.out.mono ?_; rintro e w1 ⟨rfl, q1, q2, q3⟩)
 go_ret2
 exact ⟨rfl, q1, q2, q3⟩
set_option maxRecDepth 100000 in
set_option maxHeartbeats 1000000 in
/-- a pixel's change that the budget refuses -/
theorem rasSet_spent {w : World} {r g b d : Nat} {l : List UInt8} {x y : Led} {X Y W H p i : Nat} {c0 c1 c2 c3 : UInt8} (h : RasAt w r g b (W : Int) (H : Int) true) (hm : BufAt w b g d l) (hL : LedAt w g x) (ok : x.Ok) (he : x.work 1 = (y, false)) (hX : X < W) (hY : Y < H) (hp : Y * W = p) (hi : 4 * (p + X) = i) (hp1 : p ≤ 1073741824) (hW : W ≤ 16384) (hH : H ≤ 16384) (hl : i + 4 ≤ l.length) (hs : l.length ≤ 1099511627776) :
  Calls Tryz.prog 109 #[.pointer (some ⟨r, 0, none⟩), .int .i64 (X : Int), .int .i64 (Y : Int), .agg #[.int .u8 (c0.toNat : Int), .int .u8 (c1.toNat : Int), .int .u8 (c2.toNat : Int), .int .u8 (c3.toNat : Int)]] w fun e w' => e = .returned (.bool false) ∧ LedAt w' g y ∧ Turn [g] w w' := by
 have hbg := hm.bg hL
 have hdg := hm.dg hL
 have hbd := hm.bd
 have hrg : r ≠ g := Blk.ne_ h hL (by decide)
 have hrd : r ≠ d := Blk.ne_ h hm.row (by decide)
 obtain ⟨wb, hwb⟩ : ∃ wb, wb = w.alloc (.cells #[.int .u8 (c0.toNat : Int), .int .u8 (c1.toNat : Int), .int .u8 (c2.toNat : Int), .int .u8 (c3.toNat : Int)] 68) := ⟨_, rfl⟩
 have h1 : RasAt wb r g b (W : Int) (H : Int) true := hwb ▸ Blk.alloc h _
 have m1 : BufAt wb b g d l := hwb ▸ ⟨hm.blk.alloc _, hm.row.alloc _⟩
 have l1 : LedAt wb g x := hwb ▸ Blk.alloc hL _
 have k1 : CB wb w.heap.size c0.toNat c1.toNat c2.toNat c3.toNat := hwb ▸ Blk.new _ _ _
 have t1 : Turn [g] w wb := hwb ▸ (Turn.refl _ _).alloc _
 have hgl := Blk.lt hL
 have HA := Lib.hid (rasAt_yes h1 hX hY hp hi hp1 hW hH)
 have HR := Lib.hid h1
 have HM := Lib.hid m1
 have HL := Lib.hid l1
 have HK := Lib.hid k1
 have HT := Lib.hid t1
 have HOK := Lib.hid ok
 have HE := Lib.hid he
 have HLL := Lib.hid hl
 have d0 := h1.l
 rw [hwb] at HA HR HM HL HK HT d0
 obtain ⟨i0, i1, i2, i3⟩ := idx4 (.int .u8 (c0.toNat : Int)) (.int .u8 (c1.toNat : Int)) (.int .u8 (c2.toNat : Int)) (.int .u8 (c3.toNat : Int))
 obtain ⟨j1, hj1⟩ : ∃ j, j = i + 1 := ⟨_, rfl⟩
 obtain ⟨j2, hj2⟩ : ∃ j, j = i + 2 := ⟨_, rfl⟩
 obtain ⟨j3, hj3⟩ : ∃ j, j = i + 3 := ⟨_, rfl⟩
 have e1 : (i : Int) + 1 = (j1 : Int) := by omega
 have e2 : (i : Int) + 2 = (j2 : Int) := by omega
 have e3 : (i : Int) + 3 = (j3 : Int) := by omega
 have hib : i ≤ 1099511627776 := by omega
 have HJ := Lib.hid (And.intro hj1 (And.intro hj2 hj3))
 have rl := Blk.lt h
 clear h hm hL ok he h1 m1 l1 k1 t1 hp hi hl hwb hj1 hj2 hj3
 go_enter Tryz.func109, Tryz.ntmps109
 go_wp2_with (first
  | (go_at_call 161; refine HA.out.mono ?_; rintro e w9 ⟨rfl, rfl⟩)
  | (go_at_call 162; refine (work_at HL.out HOK.out HE.out).mono ?_; rintro e w1 ⟨rfl, l2, b1⟩; have t2 : Turn [g] _ w1 := Turn.of_grown b1 (by simp); have R2 : RasAt w1 r g b (W : Int) (H : Int) true := Blk.turn HR.out t2 (by simpa using hrg); have M2 : BufAt w1 b g d l := HM.out.turn t2 (by simpa using hbg) (by simpa using hdg); have K2 : CB w1 w.heap.size c0.toNat c1.toNat c2.toNat c3.toNat := Blk.turn HK.out t2 (by simp; omega); have T2 : Turn [g] w w1 := HT.out.trans t2))
 go_ret
 exact ⟨rfl, l2, T2⟩
/-- a fault's box -/
def fl3 (k f a : Int) : Array Value := #[.int .i64 k, .int .i64 f, .int .i64 a]
def FB (w : World) (b : Nat) (k f a : Int) : Prop := Blk w b 34 (fl3 k f a)
def st3 (w : World) (b : Nat) (u v x : Value) : World := ((w.setCell ⟨b, 0, none⟩ u).setCell ⟨b, 1, none⟩ v).setCell ⟨b, 2, none⟩ x
section
variable {w w' a : World} {b g : Nat} {k f i k' f' i' : Int} {t : TypeId} {cs : Array Value} {u v x : Value} {S : List Nat}
theorem FB.new (w : World) : FB (w.alloc (.cells #[.int .i64 0, .int .i64 0, .int .i64 0] 34)) w.heap.size 0 0 0 := Blk.new _ _ _
theorem FB.st3 (h : FB w b k f i) : FB (st3 w b (.int .i64 k') (.int .i64 f') (.int .i64 i')) b k' f' i' := ((Blk.set_ (Blk.set_ (Blk.set_ h 0 _) 1 _) 2 _)).eq_ (by simp [fl3])
theorem FB.all (h : FB w b k f i) : w.cell? ⟨b, 0, none⟩ = some (.int .i64 k) ∧ w.cell? ⟨b, 1, none⟩ = some (.int .i64 f) ∧ w.cell? ⟨b, 2, none⟩ = some (.int .i64 i) ∧ w.frozen? ⟨b, 0, none⟩ = false ∧ w.frozen? ⟨b, 1, none⟩ = false ∧ w.frozen? ⟨b, 2, none⟩ = false ∧ b < w.heap.size :=
 ⟨Blk.cell h 0, Blk.cell h 1, Blk.cell h 2, Blk.frozen h 0, Blk.frozen h 1, Blk.frozen h 2, Blk.lt h⟩
theorem FB.turn (h : FB w b k f i) (t : Turn S w w') (hb : b ∉ S) : FB w' b k f i := Blk.turn h t hb
theorem FB.below (h : FB w b k f i) (t : Below w.heap.size w w') : FB w' b k f i := Blk.below h t (Blk.lt h)
theorem Blk.st3 (h : Blk w g t cs) (hb : g ≠ b) : Blk (st3 w b u v x) g t cs := Blk.far (Blk.far (Blk.far h (p := ⟨b, 0, none⟩) hb _) (p := ⟨b, 1, none⟩) hb _) (p := ⟨b, 2, none⟩) hb _
theorem Turn.st3 (h : Turn S a w) (hb : b ∈ S ∨ a.heap.size ≤ b) : Turn S a (st3 w b u v x) := ((h.set_ 0 u hb).set_ 1 v hb).set_ 2 x hb
end
end Go.Proofs.YtlehkgkomjojmaaGreat
namespace Go.Proofs.YtlehkgkomjojmaaGreat
open Go.RowKit
set_option linter.unusedVariables false
set_option linter.unusedSimpArgs false

end Go.Proofs.YtlehkgkomjojmaaGreat
namespace Go.Proofs.YtlehkgkomjojmaaGreat
open Go.RowKit
set_option linter.unusedVariables false
set_option linter.unusedSimpArgs false

/-- the box of a fault that is not told yet -/
abbrev FB0 (w : World) (g : Nat) : Prop := Blk w g 34 #[.int .i64 0, .int .i64 0, .int .i64 0]
end Go.Proofs.YtlehkgkomjojmaaGreat
namespace Go.Proofs.YtlehkgkomjojmaaGreat
open Go.RowKit
set_option linter.unusedVariables false
set_option linter.unusedSimpArgs false

end Go.Proofs.YtlehkgkomjojmaaGreat
namespace Go.Proofs.YtlehkgkomjojmaaGreat
open Go.RowKit
set_option linter.unusedVariables false
set_option linter.unusedSimpArgs false

/-- a raster whose first k pixels are told -/
def ffL (s : ByteArray) (z k : Nat) : List UInt8 := ffBytes s k ++ List.replicate (z - 4 * k) 0
theorem ffL_len {s : ByteArray} {z k : Nat} (h : 4 * k ≤ z) : (ffL s z k).length = z := by
 unfold ffL
 rw [List.length_append, ffBytes_len, List.length_replicate]
 omega
section
variable {w0 w w' : World} {p g r b d q c f k a a' : Nat} {W H z : Nat} {s : ByteArray} {x y : Led}
end
/-- what the pixels' reading leaves -/
structure FfE (w0 w : World) (p g r b d W H z : Nat) (l : List UInt8) (y : Led) : Prop where
 L : LedAt w g y
 R : RasAt w r g b (W : Int) (H : Int) true
 B : BufAt w b g d l
 len : l.length = z
 ok : y.Ok
 y1 : (z : Int) ≤ y.bytes
 T : Turn [p, g, d] w0 w
end Go.Proofs.YtlehkgkomjojmaaGreat
namespace Go.Proofs.YtlehkgkomjojmaaGreat
open Go.RowKit
set_option linter.unusedVariables false
set_option linter.unusedSimpArgs false

theorem refBadC (k a : Int) (w : World) : Calls Tryz.prog 47 #[.int .i64 k, .int .i64 a] w fun e w' => e = .returned (.agg #[.int .i64 0, .int .i64 0, .slice none 0 0, .int .i64 k, .int .i64 a]) ∧ Below w.heap.size w w' := by
 go_enter Tryz.func47, Tryz.ntmps47
 go_wp2_with fail
 exact bodyPost_ret (v := .agg #[.int .i64 0, .int .i64 0, .slice none 0 0, .int .i64 k, .int .i64 a]) (by simp [results, Tryz.results47, go_sem]) rfl ⟨rfl, (Below.refl _ _).alloc (Nat.le_refl _) _⟩
/-- the box of a document's image -/
def ri5 (W H : Int) (v : Value) (k a : Int) : Array Value := #[.int .i64 W, .int .i64 H, v, .int .i64 k, .int .i64 a]
def RI (w : World) (b : Nat) (W H : Int) (v : Value) (k a : Int) : Prop := Blk w b 44 (ri5 W H v k a)
def st5 (w : World) (b : Nat) (u0 u1 u2 u3 u4 : Value) : World := ((((w.setCell ⟨b, 0, none⟩ u0).setCell ⟨b, 1, none⟩ u1).setCell ⟨b, 2, none⟩ u2).setCell ⟨b, 3, none⟩ u3).setCell ⟨b, 4, none⟩ u4
section
variable {w w' a : World} {b g : Nat} {W H W' H' k i k' i' : Int} {t : TypeId} {cs : Array Value} {v v' u0 u1 u2 u3 u4 : Value} {S : List Nat} {B : Nat}
theorem RI.new (w : World) : RI (w.alloc (.cells #[.int .i64 0, .int .i64 0, .slice none 0 0, .int .i64 0, .int .i64 0] 44)) w.heap.size 0 0 (.slice none 0 0) 0 0 := Blk.new _ _ _
theorem RI.st5 (h : RI w b W H v k i) : RI (st5 w b (.int .i64 W') (.int .i64 H') v' (.int .i64 k') (.int .i64 i')) b W' H' v' k' i' := ((Blk.set_ (Blk.set_ (Blk.set_ (Blk.set_ (Blk.set_ h 0 _) 1 _) 2 _) 3 _) 4 _)).eq_ (by simp [ri5])
theorem RI.all (h : RI w b W H v k i) : w.cell? ⟨b, 0, none⟩ = some (.int .i64 W) ∧ w.cell? ⟨b, 1, none⟩ = some (.int .i64 H) ∧ w.cell? ⟨b, 2, none⟩ = some v ∧ w.cell? ⟨b, 3, none⟩ = some (.int .i64 k) ∧ w.cell? ⟨b, 4, none⟩ = some (.int .i64 i) ∧ w.frozen? ⟨b, 0, none⟩ = false ∧ w.frozen? ⟨b, 1, none⟩ = false ∧ w.frozen? ⟨b, 2, none⟩ = false ∧ w.frozen? ⟨b, 3, none⟩ = false ∧ w.frozen? ⟨b, 4, none⟩ = false ∧ b < w.heap.size :=
 ⟨Blk.cell h 0, Blk.cell h 1, Blk.cell h 2, Blk.cell h 3, Blk.cell h 4, Blk.frozen h 0, Blk.frozen h 1, Blk.frozen h 2, Blk.frozen h 3, Blk.frozen h 4, Blk.lt h⟩
theorem Blk.st5 (h : Blk w g t cs) (hb : g ≠ b) : Blk (st5 w b u0 u1 u2 u3 u4) g t cs := Blk.far (Blk.far (Blk.far (Blk.far (Blk.far h (p := ⟨b, 0, none⟩) hb _) (p := ⟨b, 1, none⟩) hb _) (p := ⟨b, 2, none⟩) hb _) (p := ⟨b, 3, none⟩) hb _) (p := ⟨b, 4, none⟩) hb _
theorem Below.st5 (h : Below B a w) (hb : B ≤ b) : Below B a (st5 w b u0 u1 u2 u3 u4) := below_set (below_set (below_set (below_set (below_set h hb) hb) hb) hb) hb
end
end Go.Proofs.YtlehkgkomjojmaaGreat
namespace Go.Proofs.YtlehkgkomjojmaaGreat
open Go.RowKit
set_option linter.unusedVariables false
set_option linter.unusedSimpArgs false

theorem ri_new (w : World) : RI (w.alloc (.cells #[.int .i64 0, .int .i64 0, .slice none 0 0, .int .i64 0, .int .i64 0] 44)) w.heap.size 0 0 (.slice none 0 0) 0 0 ∧ Below w.heap.size w (w.alloc (.cells #[.int .i64 0, .int .i64 0, .slice none 0 0, .int .i64 0, .int .i64 0] 44)) := ⟨RI.new w, (Below.refl _ _).alloc (Nat.le_refl _) _⟩
end Go.Proofs.YtlehkgkomjojmaaGreat
namespace Go.Proofs.YtlehkgkomjojmaaGreat
open Go.RowKit
set_option linter.unusedVariables false
set_option linter.unusedSimpArgs false

end Go.Proofs.YtlehkgkomjojmaaGreat
namespace Go.Proofs.YtlehkgkomjojmaaGreat
set_option linter.unusedVariables false

def b8 (s : ByteArray) (i : Nat) : UInt8 := UInt8.ofNat (bat s i)
theorem b8_int (s : ByteArray) (i : Nat) : ((b8 s i).toNat : Int) = (bat s i : Int) := ofNat8 (bat_lt s i)
theorem give_bal {e z k a : Nat} (hk : k ≠ 4) (ha : a ≤ e) : (Dec.give z (.fin (.bad k a))).bal e z := ⟨Nat.le_refl _, by omega, hk, ha⟩
/-- the first of what is wrong -/
def firstBad (L : List (Bool × Nat × Nat)) : Option (Nat × Nat) := (L.find? (·.1)).map (·.2)
theorem firstBad_none {L : List (Bool × Nat × Nat)} (h : firstBad L = none) : ∀ x ∈ L, x.1 = false := by
 unfold firstBad at h
 rw [Option.map_eq_none_iff, List.find?_eq_none] at h
 intro x hx
 simpa using h x hx
theorem firstBad_at {L : List (Bool × Nat × Nat)} {i : Nat} {f : Nat × Nat} (hb : ∀ j, j < i → (L[j]?.map (·.1)) = some false) (h : L[i]? = some (true, f)) : firstBad L = some f := by
 induction L generalizing i with
 | nil => simp at h
 | cons x L ih =>
  cases i with
  | zero =>
   have hx : x = (true, f) := by simpa using h
   subst hx
   rfl
  | succ i =>
   have h0 : x.1 = false := by simpa using hb 0 (by omega)
   have e : firstBad (x :: L) = firstBad L := by unfold firstBad; rw [List.find?_cons, h0]
   rw [e]
   exact ih (i := i) (fun j hj => by simpa using hb (j + 1) (by omega)) (by simpa using h)
theorem firstBad_all {L : List (Bool × Nat × Nat)} (h : ∀ x ∈ L, x.1 = false) : firstBad L = none := by
 unfold firstBad
 rw [Option.map_eq_none_iff, List.find?_eq_none]
 intro x hx
 simp [h x hx]
theorem int_beq0 (n : Nat) : ((n : Int) == 0) = decide (n = 0) := by
 rw [Bool.eq_iff_iff, decide_eq_true_iff, beq_iff_eq]
 omega
theorem give_zero {x : Led} (h : 0 ≤ x.bytes) : (x.give ((0 : Nat) : Int)).1 = x := by
 rw [led_give_yes (by omega) (by omega)]
 cases x; simp
theorem give_give {x : Led} {m n : Nat} (h : (m : Int) + n ≤ x.bytes) : ((x.give (m : Int)).1.give (n : Int)).1 = (x.give ((n + m : Nat) : Int)).1 := by
 rw [led_give_yes (x := x) (n := (m : Int)) (by omega) (by omega), led_give_yes (x := x) (n := ((n + m : Nat) : Int)) (by omega) (by omega), led_give_yes (by omega) (by simp only; omega)]
 cases x
 simp only [Led.mk.injEq, and_true, true_and]
 omega
end Go.Proofs.YtlehkgkomjojmaaGreat
namespace Go.Proofs.YtlehkgkomjojmaaGreat
open Go.RowKit
set_option linter.unusedVariables false
set_option linter.unusedSimpArgs false

/-- two boxes of results: five numbers (of some type), and a fault -/
structure PF (w0 w : World) (T : TypeId) (p f : Nat) : Prop where
 P : Blk w p T #[.int .i64 0, .int .i64 0, .int .i64 0, .int .i64 0, .int .i64 0]
 F : FB0 w f
 B : Below w0.heap.size w0 w
 np : w0.heap.size ≤ p
 nf : w0.heap.size ≤ f
section
variable {w0 w w' : World} {T : TypeId} {p f : Nat}
theorem PF.below (h : PF w0 w T p f) (b : Below w.heap.size w w') : PF w0 w' T p f := ⟨Blk.below h.P b (Blk.lt h.P), Blk.below h.F b (Blk.lt h.F), below_next h.B b, h.np, h.nf⟩
theorem PF.alloc (h : PF w0 w T p f) (o : Obj) : PF w0 (w.alloc o) T p f := h.below ((Below.refl _ _).alloc (Nat.le_refl _) _)
theorem PF.drew (h : PF w0 w T p f) : PF w0 w.drew T p f := ⟨Blk.drew h.P, Blk.drew h.F, h.B.drew, h.np, h.nf⟩
theorem PF.all (h : PF w0 w T p f) : w.cell? ⟨p, 0, none⟩ = some (.int .i64 0) ∧ w.cell? ⟨p, 1, none⟩ = some (.int .i64 0) ∧ w.cell? ⟨p, 2, none⟩ = some (.int .i64 0) ∧ w.cell? ⟨p, 3, none⟩ = some (.int .i64 0) ∧ w.cell? ⟨p, 4, none⟩ = some (.int .i64 0) ∧ w.frozen? ⟨p, 0, none⟩ = false ∧ w.frozen? ⟨p, 1, none⟩ = false ∧ w.frozen? ⟨p, 2, none⟩ = false ∧ w.frozen? ⟨p, 3, none⟩ = false ∧ w.frozen? ⟨p, 4, none⟩ = false ∧ p < w.heap.size ∧
  w.cell? ⟨f, 0, none⟩ = some (.int .i64 0) ∧ w.cell? ⟨f, 1, none⟩ = some (.int .i64 0) ∧ w.cell? ⟨f, 2, none⟩ = some (.int .i64 0) ∧ w.frozen? ⟨f, 0, none⟩ = false ∧ w.frozen? ⟨f, 1, none⟩ = false ∧ w.frozen? ⟨f, 2, none⟩ = false ∧ f < w.heap.size :=
 ⟨Blk.cell h.P 0, Blk.cell h.P 1, Blk.cell h.P 2, Blk.cell h.P 3, Blk.cell h.P 4, Blk.frozen h.P 0, Blk.frozen h.P 1, Blk.frozen h.P 2, Blk.frozen h.P 3, Blk.frozen h.P 4, Blk.lt h.P, Blk.cell h.F 0, Blk.cell h.F 1, Blk.cell h.F 2, Blk.frozen h.F 0, Blk.frozen h.F 1, Blk.frozen h.F 2, Blk.lt h.F⟩
theorem PF.store (h : PF w0 w T p f) {u0 u1 u2 u3 u4 a b c : Value} : Below w0.heap.size w0 (st3 (st5 w p u0 u1 u2 u3 u4) f a b c) := below_set3 (Below.st5 h.B h.np) h.nf
theorem PF.new (w : World) (T : TypeId) (h : T ≠ 34) : PF w ((w.alloc (.cells #[.int .i64 0, .int .i64 0, .int .i64 0, .int .i64 0, .int .i64 0] T)).alloc (.cells #[.int .i64 0, .int .i64 0, .int .i64 0] 34)) T w.heap.size (w.heap.size + 1) :=
 ⟨Blk.alloc (Blk.new _ _ _) _, Blk.new_at _ _ _ (by simp), ((Below.refl _ _).alloc (Nat.le_refl _) _).alloc (by simp) _, Nat.le_refl _, by omega⟩
end
end Go.Proofs.YtlehkgkomjojmaaGreat
namespace Go.Proofs.YtlehkgkomjojmaaGreat
set_option linter.unusedVariables false

/-- two bytes, the lowest first -/
def le2 (s : ByteArray) (i : Nat) : Nat := bat s i + 256 * bat s (i + 1)
theorem le2_lt (s : ByteArray) (i : Nat) : le2 s i < 65536 := by
 have h1 := bat_lt s i
 have h2 := bat_lt s (i + 1)
 unfold le2
 omega
def PcxVer (v : Nat) : Prop := v ≤ 5 ∧ v ≠ 1
instance (v : Nat) : Decidable (PcxVer v) := by unfold PcxVer; infer_instance
def PcxPair (b p : Nat) : Prop := (b = 8 ∧ (p = 1 ∨ p = 3)) ∨ (b = 1 ∧ (p = 1 ∨ p = 4))
instance (b p : Nat) : Decidable (PcxPair b p) := by unfold PcxPair; infer_instance
structure PcxHd where
 W : Nat
 H : Nat
 bits : Nat
 planes : Nat
 line : Nat
structure PcxHd.Ok (h : PcxHd) : Prop where
 w1 : 1 ≤ h.W
 w2 : h.W ≤ 16384
 h1 : 1 ≤ h.H
 h2 : h.H ≤ 16384
 pr : PcxPair h.bits h.planes
 l1 : (h.W * h.bits + 7) / 8 ≤ h.line
 l2 : h.line ≤ (h.W * h.bits + 7) / 8 + 3
/-- is there a map at the end? -/
def PcxHd.Map (h : PcxHd) : Prop := h.bits = 8 ∧ h.planes = 1
instance (h : PcxHd) : Decidable h.Map := by unfold PcxHd.Map; infer_instance
def PcxHd.row (h : PcxHd) : Nat := h.planes * h.line
end Go.Proofs.YtlehkgkomjojmaaGreat
namespace Go.Proofs.YtlehkgkomjojmaaGreat
set_option linter.unusedVariables false

def TgaPacked (k : Nat) : Prop := 9 ≤ k ∧ k ≤ 11
instance (k : Nat) : Decidable (TgaPacked k) := by unfold TgaPacked; infer_instance
def tgaPlain (k : Nat) : Nat := if TgaPacked k then k - 8 else k
def TgaCol (n : Nat) : Prop := n = 15 ∨ n = 16 ∨ n = 24 ∨ n = 32
instance (n : Nat) : Decidable (TgaCol n) := by unfold TgaCol; infer_instance
def TgaKnown (k : Nat) : Prop := (1 ≤ k ∧ k ≤ 3) ∨ TgaPacked k
instance (k : Nat) : Decidable (TgaKnown k) := by unfold TgaKnown; infer_instance
def TgaDepth (k b : Nat) : Prop := if tgaPlain k = 2 then TgaCol b else b = 8
instance (k b : Nat) : Decidable (TgaDepth k b) := by unfold TgaDepth; infer_instance
def TgaAlpha (b n : Nat) : Prop := n = 0 ∨ (b = 32 ∧ n = 8) ∨ (b = 16 ∧ n = 1)
instance (b n : Nat) : Decidable (TgaAlpha b n) := by unfold TgaAlpha; infer_instance
def tgaChks (m t e c W H d f : Nat) : List (Bool × Nat × Nat) := [
 (decide (1 < m), 2, 1), (!decide (TgaKnown t), 3, 2), (decide (tgaPlain t = 1 ∧ m ≠ 1), 2, 1), (decide (m = 1 ∧ ¬ TgaCol e), 3, 7), (decide (m = 1 ∧ c = 0), 2, 5),
 (decide (W = 0), 2, 12), (decide (16384 < W), 3, 12), (decide (H = 0), 2, 14), (decide (16384 < H), 3, 14), (!decide (TgaDepth t d), 3, 16), (decide (64 ≤ f), 3, 17), (!decide (TgaAlpha d (f % 16)), 2, 17)]
def tgaHead (s : ByteArray) : Option (Nat × Nat) := firstBad (tgaChks (bat s 1) (bat s 2) (bat s 7) (le2 s 5) (le2 s 12) (le2 s 14) (bat s 16) (bat s 17))
structure TgaHd where
 name : Nat
 map : Bool
 typ : Nat
 first : Nat
 count : Nat
 entry : Nat
 W : Nat
 H : Nat
 depth : Nat
 alpha : Nat
 left : Bool
 top : Bool
def tgaHd (s : ByteArray) : TgaHd :=
 ⟨bat s 0, decide (bat s 1 = 1), bat s 2, if bat s 1 = 1 then le2 s 3 else 0, if bat s 1 = 1 then le2 s 5 else 0, if bat s 1 = 1 then bat s 7 else 0, le2 s 12, le2 s 14, bat s 16, bat s 17 % 16, decide (bat s 17 / 16 % 2 = 1), decide (bat s 17 / 32 % 2 = 1)⟩
structure TgaHd.Ok (h : TgaHd) : Prop where
 n1 : h.name ≤ 255
 t1 : TgaKnown h.typ
 m1 : tgaPlain h.typ = 1 → h.map = true
 e1 : h.map = true → TgaCol h.entry
 c1 : h.map = true → 1 ≤ h.count
 c2 : h.count ≤ 65535
 f1 : h.first ≤ 65535
 w1 : 1 ≤ h.W
 w2 : h.W ≤ 16384
 h1 : 1 ≤ h.H
 h2 : h.H ≤ 16384
 d1 : TgaDepth h.typ h.depth
 a1 : TgaAlpha h.depth h.alpha
theorem tgaHead_none {s : ByteArray} (h : tgaHead s = none) : (tgaHd s).Ok ∧ bat s 1 ≤ 1 ∧ bat s 17 < 64 := by
 unfold tgaHead at h
 have a := firstBad_none h
 simp only [tgaChks, List.mem_cons, List.not_mem_nil, or_false, forall_eq_or_imp, forall_eq, decide_eq_false_iff_not, Bool.not_eq_false', decide_eq_true_eq] at a
 obtain ⟨a1, a2, a3, a4, a5, a6, a7, a8, a9, a10, a11, a12⟩ := a
 have l3 := le2_lt s 3
 have l5 := le2_lt s 5
 have b0 := bat_lt s 0
 refine ⟨⟨?_, a2, ?_, ?_, ?_, ?_, ?_, ?_, ?_, ?_, ?_, a10, a12⟩, by omega, by omega⟩
 ·show bat s 0 ≤ 255; omega
 ·intro hp
  show decide (bat s 1 = 1) = true
  rw [decide_eq_true_eq]
  exact Classical.byContradiction fun hn => a3 ⟨hp, hn⟩
 ·intro hm
  have hm' : bat s 1 = 1 := by simpa [tgaHd] using hm
  show TgaCol (if bat s 1 = 1 then bat s 7 else 0)
  rw [if_pos hm']
  exact Classical.byContradiction fun hn => a4 ⟨hm', hn⟩
 ·intro hm
  have hm' : bat s 1 = 1 := by simpa [tgaHd] using hm
  show 1 ≤ (if bat s 1 = 1 then le2 s 5 else 0)
  rw [if_pos hm']
  omega
 ·show (if bat s 1 = 1 then le2 s 5 else 0) ≤ 65535; split <;> omega
 ·show (if bat s 1 = 1 then le2 s 3 else 0) ≤ 65535; split <;> omega
 ·show 1 ≤ le2 s 12; omega
 ·show le2 s 12 ≤ 16384; omega
 ·show 1 ≤ le2 s 14; omega
 ·show le2 s 14 ≤ 16384; omega
theorem tgaHead_some {s : ByteArray} {f : Nat × Nat} (h : tgaHead s = some f) : f.1 ≠ 0 ∧ f.1 ≠ 4 ∧ f.2 ≤ 17 := by
 unfold tgaHead firstBad at h
 rw [Option.map_eq_some_iff] at h
 obtain ⟨x, hx, rfl⟩ := h
 have hm := List.mem_of_find?_eq_some hx
 simp only [tgaChks, List.mem_cons, List.not_mem_nil, or_false] at hm
 rcases hm with rfl | rfl | rfl | rfl | rfl | rfl | rfl | rfl | rfl | rfl | rfl | rfl <;> exact ⟨by simp, by simp, by simp⟩
def tgaFault (s : ByteArray) : Option (Nat × Nat) := if s.size < 18 then some (1, s.size) else tgaHead s
/-- bytes of a pixel; of a map's entry; the kind of its entries -/
def TgaHd.size (h : TgaHd) : Nat := (h.depth + 7) / 8
def tgaKind (e : Nat) : Nat := if e = 24 then 3 else if e = 32 then 5 else 2
def tgaEntry (e : Nat) : Nat := if e = 24 then 3 else if e = 32 then 4 else 2
def TgaHd.mapped (h : TgaHd) : Prop := tgaPlain h.typ = 1
instance (h : TgaHd) : Decidable h.mapped := by unfold TgaHd.mapped; infer_instance
/-- where a pixel stands -/
def TgaHd.place (h : TgaHd) (k : Nat) : Nat := (if h.top then k / h.W else h.H - 1 - k / h.W) * h.W + (if h.left then h.W - 1 - k % h.W else k % h.W)
theorem TgaHd.place_lt {h : TgaHd} (w1 : 1 ≤ h.W) {k : Nat} (hk : k < h.W * h.H) : h.place k < h.W * h.H := by
 have q : k / h.W < h.H := Nat.div_lt_of_lt_mul hk
 have r : k % h.W < h.W := Nat.mod_lt _ (by omega)
 unfold TgaHd.place
 generalize k / h.W = y at q ⊢
 generalize k % h.W = x at r ⊢
 have hy : (if h.top then y else h.H - 1 - y) + 1 ≤ h.H := by split <;> omega
 have hx : (if h.left then h.W - 1 - x else x) < h.W := by split <;> omega
 have := Nat.mul_le_mul_right h.W hy
 rw [Nat.add_mul, Nat.one_mul, Nat.mul_comm h.H] at this
 omega
end Go.Proofs.YtlehkgkomjojmaaGreat
namespace Go.Proofs.YtlehkgkomjojmaaGreat
open Go.RowKit
set_option linter.unusedVariables false
set_option linter.unusedSimpArgs false

theorem tgaPackedC (k : Nat) (w : World) : Calls Tryz.prog 165 #[.int .i64 (k : Int)] w fun e w' => e = .returned (.bool (decide (TgaPacked k))) ∧ w = w' := by
 by_cases h1 : 9 ≤ k
 ·have h1I : (9 : Int) ≤ (k : Int) := by omega
  by_cases h2 : k ≤ 11
  ·have h2I : (k : Int) ≤ 11 := by omega
   rw [decide_eq_true (p := TgaPacked k) ⟨h1, h2⟩]
   go_enter Tryz.func165, Tryz.ntmps165
   go_wp2_with fail
   go_ret
   exact ⟨rfl, rfl⟩
  ·have h2I : ¬ (k : Int) ≤ 11 := by omega
   rw [decide_eq_false (p := TgaPacked k) (fun h => h2 h.2)]
   go_enter Tryz.func165, Tryz.ntmps165
   go_wp2_with fail
   go_ret
   exact ⟨rfl, rfl⟩
 ·have h1I : ¬ (9 : Int) ≤ (k : Int) := by omega
  rw [decide_eq_false (p := TgaPacked k) (fun h => h1 h.1)]
  go_enter Tryz.func165, Tryz.ntmps165
  go_wp2_with fail
  go_ret
  exact ⟨rfl, rfl⟩
theorem tgaPlainC {k v : Nat} (hk : k ≤ 255) (hv : tgaPlain k = v) (w : World) : Calls Tryz.prog 164 #[.int .i64 (k : Int)] w fun e w' => e = .returned (.int .i64 (v : Int)) ∧ w = w' := by
 have HP := Lib.hid (fun w => tgaPackedC k w)
 by_cases h : TgaPacked k
 ·rw [decide_eq_true h] at HP
  have hv' : (k : Int) - 8 = (v : Int) := by unfold tgaPlain at hv; rw [if_pos h] at hv; unfold TgaPacked at h; omega
  have hkI : (k : Int) ≤ 255 := by omega
  clear hv h
  go_enter Tryz.func164, Tryz.ntmps164
  go_wp2_with (go_at_call 165; refine (HP.out _).mono ?_; rintro e w1 ⟨rfl, rfl⟩)
  go_ret
  exact ⟨rfl, rfl⟩
 ·rw [decide_eq_false h] at HP
  have hv' : k = v := by unfold tgaPlain at hv; rw [if_neg h] at hv; exact hv
  subst hv'
  clear hv h
  go_enter Tryz.func164, Tryz.ntmps164
  go_wp2_with (go_at_call 165; refine (HP.out _).mono ?_; rintro e w1 ⟨rfl, rfl⟩)
  go_ret
  exact ⟨rfl, rfl⟩
theorem tgaColC (n : Nat) (w : World) : Calls Tryz.prog 167 #[.int .i64 (n : Int)] w fun e w' => e = .returned (.bool (decide (TgaCol n))) ∧ w = w' := by
 have e : ((n : Int) == 15 || (n : Int) == 16 || (n : Int) == 24 || (n : Int) == 32) = decide (TgaCol n) := by
  rw [Bool.eq_iff_iff]
  simp only [Bool.or_eq_true, beq_iff_eq, decide_eq_true_eq]
  unfold TgaCol
  omega
 have E := Lib.hid (ret1 (congrArg Value.bool e))
 clear e
 by_cases h0 : (n : Int) = 15
 ·go_enter Tryz.func167, Tryz.ntmps167
  go_wp2_with fail
  all_goals go_ret
  all_goals exact ⟨(by rw [← E.out]; simp_all), rfl⟩
 ·go_enter Tryz.func167, Tryz.ntmps167
  go_wp2_with fail
  all_goals go_ret
  all_goals exact ⟨(by rw [← E.out]; simp_all), rfl⟩
theorem leT_or {c0 c1 : Nat} (h0 : c0 < 256) (h1 : c1 < 256) : bits .or .i64 (c0 : Int) ((c1 : Int) * 256) = ((c0 + 256 * c1 : Nat) : Int) := by
 rw [show (c1 : Int) * 256 = ((2 ^ 8 * c1 : Nat) : Int) by omega, or64 _ _ (by omega) (by omega), Nat.or_comm, ← Nat.two_pow_add_eq_or_of_lt (by omega)]
 omega
set_option maxRecDepth 100000 in
set_option maxHeartbeats 1000000 in
theorem tgaWordC {x : ByteArray} {a v : Nat} (h : a + 2 ≤ x.size) (hs : x.size ≤ 1099511627776) (hv : le2 x a = v) (w : World) : Calls Tryz.prog 166 #[.string x, .int .i64 (a : Int)] w fun e w' => e = .returned (.int .i64 (v : Int)) ∧ w' = w.drew := by
 have i0 : (a : Int) < (x.size : Int) := by omega
 have i1 : (a : Int) + 1 < (x.size : Int) := by omega
 have n0 : a < x.size := by omega
 have n1 : a + 1 < x.size := by omega
 have c0 : x[a].toNat < 256 := UInt8.toNat_lt _
 have c1 : x[a + 1].toNat < 256 := UInt8.toNat_lt _
 have HE := Lib.hid (leT_or c0 c1)
 have hw1 := IntWalk.i64_in ((a : Int) + 1) (by omega)
 have j1 : 0 ≤ (a : Int) + 1 := by omega
 have t1 : ((a : Int) + 1).toNat = a + 1 := by omega
 have e : v = x[a].toNat + 256 * x[a + 1].toNat := by rw [← hv]; unfold le2; rw [bat_eq n0, bat_eq n1]
 rw [e]
 clear hv e
 go_enter Tryz.func166, Tryz.ntmps166
 go_wp2_with fail
 go_region
 go_wp2_with fail
 go_ret
 exact ⟨ret1 (vint HE.out), rfl⟩
theorem tgaDepthC {k b : Nat} (hk : k ≤ 255) (w : World) : Calls Tryz.prog 168 #[.int .i64 (k : Int), .int .i64 (b : Int)] w fun e w' => e = .returned (.bool (decide (TgaDepth k b))) ∧ w = w' := by
 obtain ⟨v, hv⟩ : ∃ v, tgaPlain k = v := ⟨_, rfl⟩
 have HP := Lib.hid (fun w => tgaPlainC hk hv w)
 have HC := Lib.hid (fun w => tgaColC b w)
 by_cases h : v = 2
 ·have hI : (v : Int) = 2 := by omega
  have e : decide (TgaDepth k b) = decide (TgaCol b) := decide_eq_decide.2 (by unfold TgaDepth; rw [hv, if_pos h])
  rw [e]
  clear e hv h
  go_enter Tryz.func168, Tryz.ntmps168
  go_wp2_with (first | (go_at_call 164; refine (HP.out _).mono ?_; rintro e w1 ⟨rfl, rfl⟩) | (go_at_call 167; refine (HC.out _).mono ?_; rintro e w2 ⟨rfl, rfl⟩))
  go_ret
  exact ⟨rfl, rfl⟩
 ·have hI : ¬ (v : Int) = 2 := by omega
  have e : decide (TgaDepth k b) = decide (b = 8) := decide_eq_decide.2 (by unfold TgaDepth; rw [hv, if_neg h])
  rw [e]
  by_cases h8 : b = 8
  ·have h8I : ((b : Int) == 8) = true := by rw [beq_iff_eq]; omega
   rw [decide_eq_true h8]
   clear e hv h h8
   go_enter Tryz.func168, Tryz.ntmps168
   go_wp2_with (first | (go_at_call 164; refine (HP.out _).mono ?_; rintro e w1 ⟨rfl, rfl⟩) | fail)
   go_ret
   exact ⟨by first | rfl | (rw [h8I]), rfl⟩
  ·have h8I : ((b : Int) == 8) = false := by rw [beq_eq_false_iff_ne]; omega
   rw [decide_eq_false h8]
   clear e hv h h8
   go_enter Tryz.func168, Tryz.ntmps168
   go_wp2_with (first | (go_at_call 164; refine (HP.out _).mono ?_; rintro e w1 ⟨rfl, rfl⟩) | fail)
   go_ret
   exact ⟨by first | rfl | (rw [h8I]), rfl⟩
theorem tgaAlphaC (b n : Nat) (w : World) : Calls Tryz.prog 169 #[.int .i64 (b : Int), .int .i64 (n : Int)] w fun e w' => e = .returned (.bool (decide (TgaAlpha b n))) ∧ w = w' := by
 by_cases h32 : b = 32
 ·have b32 : (b : Int) = 32 := by omega
  have c32 : ((b : Int) == 32) = true := by rw [beq_iff_eq]; omega
  have e : ((n : Int) == 0 || (n : Int) == 8) = decide (TgaAlpha b n) := by
   rw [Bool.eq_iff_iff]
   simp only [Bool.or_eq_true, beq_iff_eq, decide_eq_true_eq]
   unfold TgaAlpha
   omega
  have E := Lib.hid (ret1 (congrArg Value.bool e))
  clear e h32
  go_enter Tryz.func169, Tryz.ntmps169
  go_wp2_with fail
  all_goals go_ret
  all_goals exact ⟨(by rw [← E.out]; simp_all), rfl⟩
 ·have b32 : ¬ (b : Int) = 32 := by omega
  have c32 : ((b : Int) == 32) = false := by rw [beq_eq_false_iff_ne]; omega
  by_cases h16 : b = 16
  ·have b16 : (b : Int) = 16 := by omega
   have c16 : ((b : Int) == 16) = true := by rw [beq_iff_eq]; omega
   have e : ((n : Int) == 0 || (n : Int) == 1) = decide (TgaAlpha b n) := by
    rw [Bool.eq_iff_iff]
    simp only [Bool.or_eq_true, beq_iff_eq, decide_eq_true_eq]
    unfold TgaAlpha
    omega
   have E := Lib.hid (ret1 (congrArg Value.bool e))
   clear e h32 h16
   go_enter Tryz.func169, Tryz.ntmps169
   go_wp2_with fail
   all_goals go_ret
   all_goals exact ⟨(by rw [← E.out]; simp_all), rfl⟩
  ·have b16 : ¬ (b : Int) = 16 := by omega
   have c16 : ((b : Int) == 16) = false := by rw [beq_eq_false_iff_ne]; omega
   have e : ((n : Int) == 0) = decide (TgaAlpha b n) := by
    rw [Bool.eq_iff_iff]
    simp only [beq_iff_eq, decide_eq_true_eq]
    unfold TgaAlpha
    omega
   have E := Lib.hid (ret1 (congrArg Value.bool e))
   clear e h32 h16
   go_enter Tryz.func169, Tryz.ntmps169
   go_wp2_with fail
   all_goals go_ret
   all_goals exact ⟨(by rw [← E.out]; try simp_all), rfl⟩
end Go.Proofs.YtlehkgkomjojmaaGreat
