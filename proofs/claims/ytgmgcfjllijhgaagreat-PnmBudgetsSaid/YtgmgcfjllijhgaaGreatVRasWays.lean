/- Plain: a farbfeld file, as a decoder takes it. farbfeld: a number of bytes, the highest first; what is wrong with a head; a sample. farbfeld: what is wrong with a head. farbfeld: Sides. farbfeld: the pixels. farbfeld: Decode. farbfeld: Decode, by any budget. A raster is made, told with all its ways at once. -/
import Derived.Test.YtgmgcfjllijhgaaGreatVPnmHead
import Derived.Test.YtgmgcfjllijhgaaGreatVPnmE
import Derived.Test.YtgmgcfjllijhgaaGreatVSync
import Derived.Test.YtgmgcfjllijhgaaGreatVScaler
import Derived.Test.YtgmgcfjllijhgaaGreatVBuf
import Derived.Deep.RegionHeld3
import Derived.Test.YtgmgcfjllijhgaaGreatVWays
import Derived.Test.YtgmgcfjllijhgaaGreatVRas
namespace Go.Proofs.YtgmgcfjllijhgaaGreat
set_option linter.unusedVariables false

/-- a sample of a pixel -/
def ffU (s : ByteArray) (i : Nat) : UInt8 := UInt8.ofNat (sround (beN s i 2 : Int) 65535).toNat
def ffQ (s : ByteArray) (k : Nat) : List UInt8 := [ffU s (16 + 8 * k), ffU s (16 + 8 * k + 2), ffU s (16 + 8 * k + 4), ffU s (16 + 8 * k + 6)]
def ffBytes (s : ByteArray) : Nat → List UInt8
 | 0 => []
 | n + 1 => ffBytes s n ++ ffQ s n
theorem ffBytes_len (s : ByteArray) (n : Nat) : (ffBytes s n).length = 4 * n := by
 induction n with
 | zero => rfl
 | succ n ih => unfold ffBytes; rw [List.length_append, ih]; simp [ffQ]; omega
end Go.Proofs.YtgmgcfjllijhgaaGreat
namespace Go.Proofs.YtgmgcfjllijhgaaGreat
open Go.RowKit
set_option linter.unusedVariables false
set_option linter.unusedSimpArgs false

end Go.Proofs.YtgmgcfjllijhgaaGreat
namespace Go.Proofs.YtgmgcfjllijhgaaGreat
open Go.RowKit
set_option linter.unusedVariables false
set_option linter.unusedSimpArgs false

end Go.Proofs.YtgmgcfjllijhgaaGreat
namespace Go.Proofs.YtgmgcfjllijhgaaGreat
open Go.RowKit
set_option linter.unusedVariables false
set_option linter.unusedSimpArgs false

end Go.Proofs.YtgmgcfjllijhgaaGreat
namespace Go.Proofs.YtgmgcfjllijhgaaGreat
open Go.RowKit
set_option linter.unusedVariables false
set_option linter.unusedSimpArgs false

/-- a raster whose first k pixels are told -/
def ffL (s : ByteArray) (z k : Nat) : List UInt8 := ffBytes s k ++ List.replicate (z - 4 * k) 0
theorem ffL_len {s : ByteArray} {z k : Nat} (h : 4 * k ≤ z) : (ffL s z k).length = z := by
 unfold ffL
 rw [List.length_append, ffBytes_len, List.length_replicate]
 omega
/-- what holds in the pixels' loop -/
structure FfP (w0 w : World) (p g r b d q c f k a : Nat) (W H z : Nat) (s : ByteArray) (x : Led) : Prop where
 S : SrcAt w p g s 0 s.size a
 L : LedAt w g x
 R : RasAt w r g b (W : Int) (H : Int) true
 B : BufAt w b g d (ffL s z k)
 C : SclA w q 65535 [d]
 Q : Blk w c 129 #[.pointer (some ⟨q, 0, none⟩)]
 F : FB w f 0 0 0
 T : Turn [p, g, d] w0 w
 nq : w0.heap.size ≤ q
 nc : w0.heap.size ≤ c
 nf : w0.heap.size ≤ f
section
variable {w0 w w' : World} {p g r b d q c f k a a' : Nat} {W H z : Nat} {s : ByteArray} {x y : Led}
theorem FfP.blk (P : FfP w0 w p g r b d q c f k a W H z s x) : ∃ cs, Blk w q 160 cs := P.C.elim (fun h => ⟨_, h⟩) fun ⟨_, _, h⟩ => ⟨_, h.blk⟩
theorem FfP.take (P : FfP w0 w p g r b d q c f k a W H z s x) (t : Turn [p, g] w w') (s' : SrcAt w' p g s 0 s.size a') (l' : LedAt w' g y) : FfP w0 w' p g r b d q c f k a' W H z s y := by
 obtain ⟨cs, hq⟩ := P.blk
 obtain ⟨S, L, R, B, C, Q, F, T, nq, nc, nf⟩ := P
 refine ⟨s', l', Blk.turn R t ?_, B.turn t ?_ ?_, C.turn t ?_ ?_, Blk.turn Q t ?_, F.turn t ?_, T.trans (t.mono (by simp)), nq, nc, nf⟩
 all_goals simp only [List.mem_cons, List.not_mem_nil, or_false, not_or]
 ·exact ⟨Blk.ne_ R S (by decide), Blk.ne_ R L (by decide)⟩
 ·exact ⟨Blk.ne_ B.blk S (by decide), Blk.ne_ B.blk L (by decide)⟩
 ·exact ⟨Blk.ne_ B.row S (by decide), Blk.ne_ B.row L (by decide)⟩
 ·exact ⟨Blk.ne_ hq S (by decide), Blk.ne_ hq L (by decide)⟩
 ·rintro i (rfl | rfl)
  ·exact .inr ⟨_, _, S, by decide⟩
  ·exact .inr ⟨_, _, L, by decide⟩
 ·exact ⟨Blk.ne_ Q S (by decide), Blk.ne_ Q L (by decide)⟩
 ·exact ⟨Blk.ne_ F S (by decide), Blk.ne_ F L (by decide)⟩
theorem FfP.set (P : FfP w0 w p g r b d q c f k a W H z s x) (t : Turn [g, d] w w') (b' : BufAt w' b g d (ffL s z (k + 1))) (l' : LedAt w' g y) : FfP w0 w' p g r b d q c f (k + 1) a W H z s y := by
 obtain ⟨cs, hq⟩ := P.blk
 obtain ⟨S, L, R, B, C, Q, F, T, nq, nc, nf⟩ := P
 refine ⟨S.turn t ?_, l', Blk.turn R t ?_, b', C.turn t ?_ ?_, Blk.turn Q t ?_, F.turn t ?_, T.trans (t.mono (by simp)), nq, nc, nf⟩
 all_goals simp only [List.mem_cons, List.not_mem_nil, or_false, not_or]
 ·exact ⟨Blk.ne_ S L (by decide), Blk.ne_ S B.row (by decide)⟩
 ·exact ⟨Blk.ne_ R L (by decide), Blk.ne_ R B.row (by decide)⟩
 ·exact ⟨Blk.ne_ hq L (by decide), Blk.ne_ hq B.row (by decide)⟩
 ·rintro i (rfl | rfl)
  ·exact .inr ⟨_, _, L, by decide⟩
  ·exact .inl rfl
 ·exact ⟨Blk.ne_ Q L (by decide), Blk.ne_ Q B.row (by decide)⟩
 ·exact ⟨Blk.ne_ F L (by decide), Blk.ne_ F B.row (by decide)⟩
theorem FfP.led (P : FfP w0 w p g r b d q c f k a W H z s x) (t : Turn [g] w w') (l' : LedAt w' g y) : FfP w0 w' p g r b d q c f k a W H z s y :=
 P.take (t.mono (by simp)) (P.S.turn t (by simpa using Blk.ne_ P.S P.L (by decide))) l'
theorem FfP.below (P : FfP w0 w p g r b d q c f k a W H z s x) (t : Below w.heap.size w w') : FfP w0 w' p g r b d q c f k a W H z s x :=
 P.take (Turn.of_below t) (Blk.below P.S t (Blk.lt P.S)) (Blk.below P.L t (Blk.lt P.L))
end
/-- what the pixels' reading leaves -/
structure FfE (w0 w : World) (p g r b d W H z : Nat) (l : List UInt8) (y : Led) : Prop where
 L : LedAt w g y
 R : RasAt w r g b (W : Int) (H : Int) true
 B : BufAt w b g d l
 len : l.length = z
 ok : y.Ok
 y1 : (z : Int) ≤ y.bytes
 T : Turn [p, g, d] w0 w
theorem FfP.fin {w0 w : World} {p g r b d q c f k a W H z : Nat} {s : ByteArray} {x : Led} {u v e : Value} (P : FfP w0 w p g r b d q c f k a W H z s x) (hk : 4 * k ≤ z) (ok : x.Ok) (hb : (z : Int) ≤ x.bytes) : FfE w0 (st3 w f u v e) p g r b d W H z (ffL s z k) x :=
 ⟨Blk.st3 P.L (Blk.ne_ P.L P.F (by decide)), Blk.st3 P.R (Blk.ne_ P.R P.F (by decide)), ⟨Blk.st3 P.B.blk (Blk.ne_ P.B.blk P.F (by decide)), Blk.st3 P.B.row (Blk.ne_ P.B.row P.F (by decide))⟩, ffL_len hk, ok, hb, Turn.st3 P.T (.inr P.nf)⟩
end Go.Proofs.YtgmgcfjllijhgaaGreat
namespace Go.Proofs.YtgmgcfjllijhgaaGreat
open Go.RowKit
set_option linter.unusedVariables false
set_option linter.unusedSimpArgs false

/-- what a decoder leaves: as its budget's steps tell -/
def DecPost (fm : Int) (D : Dec) (x : Led) (w w' : World) (p g : Nat) (e : Ending) : Prop :=
 ∃ y, LedAt w' g y ∧ y.Ok ∧ Turn [p, g] w w' ∧
  ((∃ k a : Nat, k ≠ 0 ∧ D.run x = (y, .bad k a) ∧ e = .returned (.tuple #[.pointer none, .agg #[.int .i64 (k : Int), .int .i64 fm, .int .i64 (a : Int)]])) ∨
   (∃ (W H : Nat) (l : List UInt8) (r b d : Nat), D.run x = (y, .img W H l) ∧ e = .returned (.tuple #[.pointer (some ⟨r, 0, none⟩), .agg #[.int .i64 0, .int .i64 0, .int .i64 0]]) ∧ RasAt w' r g b (W : Int) (H : Int) true ∧ BufAt w' b g d l ∧ w.heap.size ≤ r ∧ w.heap.size ≤ b ∧ w.heap.size ≤ d))
theorem give_all {y : Led} {l : List UInt8} {z : Nat} (h : l.length = z) (hb : (z : Int) ≤ y.bytes) : y.give (l.length : Int) = ((y.give (z : Int)).1, true) := by
 rw [h]
 unfold Led.give
 rw [if_neg (by omega)]
end Go.Proofs.YtgmgcfjllijhgaaGreat
namespace Go.Proofs.YtgmgcfjllijhgaaGreat
open Go.RowKit
set_option linter.unusedVariables false
set_option linter.unusedSimpArgs false

end Go.Proofs.YtgmgcfjllijhgaaGreat
namespace Go.Proofs.YtgmgcfjllijhgaaGreat
open Go.RowKit
set_option linter.unusedVariables false

/-- the ways of a new raster -/
def NewPost (w w' : World) (g W H a : Nat) (y : Led) (e : Ending) : Prop :=
 ∃ y2, LedAt w' g y2 ∧ y2.Ok ∧ Turn [g] w w' ∧
  ((e = .returned (.tuple #[.pointer none, .int .i64 4]) ∧ y2.reason ≠ 0 ∧ ∀ k, (Dec.sides W H a (.take (4 * (W * H)) a k)).run y = (y2, .bad 4 a)) ∨
   (∃ r b d : Nat, e = .returned (.tuple #[.pointer (some ⟨r, 0, none⟩), .int .i64 0]) ∧ w.heap.size ≤ r ∧ w.heap.size ≤ b ∧ w.heap.size ≤ d ∧ RasAt w' r g b (W : Int) (H : Int) true ∧ BufAt w' b g d (List.replicate (4 * (W * H)) 0) ∧ y2.reason = 0 ∧ y2.bytes = y.bytes + ((4 * (W * H) : Nat) : Int) ∧ ∀ k, (Dec.sides W H a (.take (4 * (W * H)) a k)).run y = k.run y2))
theorem rasNew_ways {w : World} {g W H : Nat} {y : Led} (a : Nat) (h1 : 1 ≤ W) (h2 : W ≤ 16384) (h3 : 1 ≤ H) (h4 : H ≤ 16384) (l : LedAt w g y) (ok : y.Ok) (hr : y.reason = 0) :
  Calls Tryz.prog 38 #[.pointer (some ⟨g, 0, none⟩), .int .i64 (W : Int), .int .i64 (H : Int)] w fun e w' => NewPost w w' g W H a y e := by
 have hN1 : W * H ≤ 16384 * 16384 := Nat.mul_le_mul h2 h4
 have hs : sideHyp (W : Int) (H : Int) := ⟨⟨by omega, by omega⟩, ⟨by omega, by omega⟩⟩
 obtain ⟨y2, v2, hw2⟩ : ∃ y2 v2, y.sides W H = (y2, v2) := ⟨_, _, rfl⟩
 have y2ok : y2.Ok := by have := ok.sides W H; rw [hw2] at this; exact this
 cases v2 with
 | false =>
  obtain ⟨n1, n2⟩ := led_sides_no (x := y) (a := W) (b := H) (by rw [hw2]) hr
  rw [hw2] at n1
  refine (rasNew_sides hs l ok hw2).mono ?_
  rintro e w' ⟨rfl, l', t'⟩
  exact ⟨y2, l', y2ok, t', .inl ⟨rfl, n1, fun k => run_sides_no hw2⟩⟩
 | true =>
  obtain ⟨n1, _⟩ := led_sides_yes (x := y) (a := W) (b := H) (by rw [hw2])
  rw [hw2] at n1
  have n1' : y2 = y := n1
  subst n1'
  obtain ⟨y3, v3, hw3⟩ : ∃ y3 v3, y2.take ((4 * (W * H) : Nat) : Int) = (y3, v3) := ⟨_, _, rfl⟩
  have y3ok : y3.Ok := by have := ok.take ((4 * (W * H) : Nat) : Int); rw [hw3] at this; exact this
  cases v3 with
  | false =>
   obtain ⟨m1, m2⟩ := led_take_no (x := y2) (n := ((4 * (W * H) : Nat) : Int)) (by rw [hw3]) hr
   rw [hw3] at m1
   refine (rasNew_take (y := W * H) (z := 4 * (W * H)) hs rfl (by omega) (by omega) l ok hw2 hw3).mono ?_
   rintro e w' ⟨rfl, l', t'⟩
   exact ⟨y3, l', y3ok, t', .inl ⟨rfl, m1, fun k => by rw [run_sides_yes hw2, run_take_no hw3]⟩⟩
  | true =>
   obtain ⟨_, m1, m2, _⟩ := led_take_yes (x := y2) (n := ((4 * (W * H) : Nat) : Int)) (by rw [hw3])
   rw [hw3] at m1 m2
   refine (rasNew_yes (y := W * H) (z := 4 * (W * H)) hs rfl (by omega) (by omega) l ok hw2 hw3).mono ?_
   rintro e w' ⟨r, b, d, rfl, hr', hb', hd', R', B', l', t'⟩
   exact ⟨y3, l', y3ok, t', .inr ⟨r, b, d, rfl, hr', hb', hd', R', B', m1, m2, fun k => by rw [run_sides_yes hw2, run_take_yes hw3]⟩⟩
end Go.Proofs.YtgmgcfjllijhgaaGreat
