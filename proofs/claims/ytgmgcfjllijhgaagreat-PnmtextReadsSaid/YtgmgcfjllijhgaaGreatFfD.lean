/- farbfeld: a number of bytes, the highest first; what is wrong with a head; a sample. farbfeld: what is wrong with a head. farbfeld: Sides. farbfeld: the pixels. -/
import Derived.Test.YtgmgcfjllijhgaaGreatFfLaw
import Derived.Test.YtgmgcfjllijhgaaGreatSync
import Derived.Test.YtgmgcfjllijhgaaGreatScaler
import Derived.Test.YtgmgcfjllijhgaaGreatBuf
import Derived.Deep.RegionHeld3
import Derived.Test.YtgmgcfjllijhgaaGreatTake
import Derived.Test.YtgmgcfjllijhgaaGreatRas
namespace Go.Proofs.YtgmgcfjllijhgaaGreat
open Go.RowKit
set_option linter.unusedVariables false
set_option linter.unusedSimpArgs false

theorem beN_or {x : ByteArray} {i j : Nat} (hj : j < 4) (hx : i + j < x.size) : bits .or .i64 (wrap64 ((beN x i j : Int) * 256)) (wrap64 ((x[i + j].toNat : Nat) : Int)) = (beN x i (j + 1) : Int) := by
  have hb := beN_lt x i j
  have hp : 256 ^ j ≤ 256 ^ 3 := Nat.pow_le_pow_right (by omega) (by omega)
  have hc : x[i + j].toNat < 256 := UInt8.toNat_lt _
  have e1 : wrap64 ((beN x i j : Int) * 256) = ((2 ^ 8 * beN x i j : Nat) : Int) := by rw [wrap64_id _ (by omega) (by omega)]; omega
  rw [e1, wrap64_id ((x[i + j].toNat : Nat) : Int) (by omega) (by omega), or64 _ _ (by omega) (by omega), ← Nat.two_pow_add_eq_or_of_lt hc, beN, bat_eq hx]
  omega
end Go.Proofs.YtgmgcfjllijhgaaGreat
namespace Go.Proofs.YtgmgcfjllijhgaaGreat
open Go.RowKit
set_option linter.unusedVariables false
set_option linter.unusedSimpArgs false

theorem ffWb_at {j : Nat} (h : j < 8) (w : World) : (Instr.index 9 (.string ⟨#[102, 97, 114, 98, 102, 101, 108, 100]⟩) (.int .i64 (j : Int))).run Tryz.prog w = .ok (.int .u8 ((ffW.getD j 0 : Nat) : Int)) w := by
  rcases (by omega : j = 0 ∨ j = 1 ∨ j = 2 ∨ j = 3 ∨ j = 4 ∨ j = 5 ∨ j = 6 ∨ j = 7) with rfl | rfl | rfl | rfl | rfl | rfl | rfl | rfl
  all_goals kernel_rfl
/-- the box of a fault that is not told yet -/
abbrev FB0 (w : World) (g : Nat) : Prop := Blk w g 34 #[.int .i64 0, .int .i64 0, .int .i64 0]
theorem fb_new (w : World) : FB0 (w.alloc (.cells #[.int .i64 0, .int .i64 0, .int .i64 0] 34)) w.heap.size ∧ Below w.heap.size w (w.alloc (.cells #[.int .i64 0, .int .i64 0, .int .i64 0] 34)) ∧ w.heap.size ≤ w.heap.size :=
  ⟨Blk.new _ _ _, (Below.refl _ _).alloc (Nat.le_refl _) _, Nat.le_refl _⟩
end Go.Proofs.YtgmgcfjllijhgaaGreat
namespace Go.Proofs.YtgmgcfjllijhgaaGreat
open Go.RowKit
set_option linter.unusedVariables false
set_option linter.unusedSimpArgs false

theorem offFrom_ext {s b : ByteArray} {W : List Nat} {m : Nat} (h : ∀ k, k < m → bat b k = bat s k) : ∀ n j, j + n ≤ m → offFrom b W n j = offFrom s W n j := by
  intro n
  induction n with
  | zero => intro j _; rfl
  | succ n ih =>
    intro j hj
    unfold offFrom
    rw [h j (by omega), ih (j + 1) (by omega)]
theorem beN_ext {s b : ByteArray} {m : Nat} (h : ∀ k, k < m → bat b k = bat s k) (i : Nat) : ∀ n, i + n ≤ m → beN b i n = beN s i n := by
  intro n
  induction n with
  | zero => intro _; rfl
  | succ n ih =>
    intro hj
    unfold beN
    rw [h (i + n) (by omega), ih (by omega)]
theorem ffHead_cut (s : ByteArray) : ffHead (s.extract 0 (0 + 16)) = ffHead s := by
  have h : ∀ k, k < 16 → bat (s.extract 0 (0 + 16)) k = bat s k := fun k hk => by rw [bat_extract s 0 16 k hk, Nat.zero_add]
  unfold ffHead
  rw [offFrom_ext h 8 0 (by omega), beN_ext h 8 4 (by omega), beN_ext h 12 4 (by omega)]
/-- what a head's fault is told as -/
def ffTold (o : Option (Nat × Nat)) : Value := match o with | none => .agg #[.int .i64 0, .int .i64 0, .int .i64 0] | some f => .agg #[.int .i64 (f.1 : Int), .int .i64 6, .int .i64 (f.2 : Int)]
end Go.Proofs.YtgmgcfjllijhgaaGreat
namespace Go.Proofs.YtgmgcfjllijhgaaGreat
open Go.RowKit
set_option linter.unusedVariables false
set_option linter.unusedSimpArgs false

theorem over_next {a b : List UInt8} {z : Nat} (ha : a.length = z) (q : List UInt8) (hb : q.length ≤ b.length) : over (a ++ b) z q = a ++ q ++ b.drop q.length := by
  subst ha
  unfold over
  rw [List.take_left, ← List.drop_drop, List.drop_left]
/-- a raster whose first k pixels are told -/
def ffL (s : ByteArray) (z k : Nat) : List UInt8 := ffBytes s k ++ List.replicate (z - 4 * k) 0
theorem ffL_len {s : ByteArray} {z k : Nat} (h : 4 * k ≤ z) : (ffL s z k).length = z := by
  unfold ffL
  rw [List.length_append, ffBytes_len, List.length_replicate]
  omega
theorem ffL_next {s : ByteArray} {z k : Nat} (h : 4 * (k + 1) ≤ z) : over (ffL s z k) (4 * k) (ffQ s k) = ffL s z (k + 1) := by
  have e4 : (ffQ s k).length = 4 := rfl
  unfold ffL
  rw [over_next (ffBytes_len s k) _ (by rw [e4, List.length_replicate]; omega), ffBytes, List.drop_replicate, e4]
  congr 2
theorem ffU_int (s : ByteArray) (i : Nat) : ((ffU s i).toNat : Int) = sround (beN s i 2 : Int) 65535 := by
  have hb := beN_lt s i 2
  have hr := sround_range (v := (beN s i 2 : Int)) (m := 65535) (by omega) (by omega) (by omega)
  unfold ffU
  rw [ofNat8 (by omega)]
  omega
/-- what holds in the pixels' loop -/
structure FfP (w0 w : World) (p g r b d q c f k a : Nat) (W H z : Nat) (s : ByteArray) (x : Led) : Prop where
  S : SrcAt w p g s 0 s.size a
  L : LedAt w g x
  R : RasAt w r g b (W : Int) (H : Int) true
  B : BufAt w b g d (ffL s z k)
  C : SclA w q 65535 [d]
  Q : Blk w c 129 #[.pointer (some ⟨q, 0, none⟩)]
  F : FB w f 0 0 0
  T : Turn [p, g, d] w0 w
  nq : w0.heap.size ≤ q
  nc : w0.heap.size ≤ c
  nf : w0.heap.size ≤ f
section
variable {w0 w w' : World} {p g r b d q c f k a a' : Nat} {W H z : Nat} {s : ByteArray} {x y : Led}
theorem FfP.blk (P : FfP w0 w p g r b d q c f k a W H z s x) : ∃ cs, Blk w q 160 cs := P.C.elim (fun h => ⟨_, h⟩) fun ⟨_, _, h⟩ => ⟨_, h.blk⟩
theorem FfP.take (P : FfP w0 w p g r b d q c f k a W H z s x) (t : Turn [p, g] w w') (s' : SrcAt w' p g s 0 s.size a') (l' : LedAt w' g y) : FfP w0 w' p g r b d q c f k a' W H z s y := by
  obtain ⟨cs, hq⟩ := P.blk
  obtain ⟨S, L, R, B, C, Q, F, T, nq, nc, nf⟩ := P
  refine ⟨s', l', Blk.turn R t ?_, B.turn t ?_ ?_, C.turn t ?_ ?_, Blk.turn Q t ?_, F.turn t ?_, T.trans (t.mono (by simp)), nq, nc, nf⟩
  all_goals simp only [List.mem_cons, List.not_mem_nil, or_false, not_or]
  · exact ⟨Blk.ne_ R S (by decide), Blk.ne_ R L (by decide)⟩
  · exact ⟨Blk.ne_ B.blk S (by decide), Blk.ne_ B.blk L (by decide)⟩
  · exact ⟨Blk.ne_ B.row S (by decide), Blk.ne_ B.row L (by decide)⟩
  · exact ⟨Blk.ne_ hq S (by decide), Blk.ne_ hq L (by decide)⟩
  · rintro i (rfl | rfl)
    · exact .inr ⟨_, _, S, by decide⟩
    · exact .inr ⟨_, _, L, by decide⟩
  · exact ⟨Blk.ne_ Q S (by decide), Blk.ne_ Q L (by decide)⟩
  · exact ⟨Blk.ne_ F S (by decide), Blk.ne_ F L (by decide)⟩
theorem FfP.smp (P : FfP w0 w p g r b d q c f k a W H z s x) (t : Turn [q] w w') (c' : SclA w' q 65535 [d]) : FfP w0 w' p g r b d q c f k a W H z s x := by
  obtain ⟨cs, hq⟩ := P.blk
  obtain ⟨S, L, R, B, C, Q, F, T, nq, nc, nf⟩ := P
  exact ⟨S.turn t (by simpa using Blk.ne_ S hq (by decide)), L.turn t (by simpa using Blk.ne_ L hq (by decide)), Blk.turn R t (by simpa using Blk.ne_ R hq (by decide)), B.turn t (by simpa using Blk.ne_ B.blk hq (by decide)) (by simpa using Blk.ne_ B.row hq (by decide)), c', Blk.turn Q t (by simpa using Blk.ne_ Q hq (by decide)), F.turn t (by simpa using Blk.ne_ F hq (by decide)), T.next t (by simp; exact .inr nq), nq, nc, nf⟩
theorem FfP.set (P : FfP w0 w p g r b d q c f k a W H z s x) (t : Turn [g, d] w w') (b' : BufAt w' b g d (ffL s z (k + 1))) (l' : LedAt w' g y) : FfP w0 w' p g r b d q c f (k + 1) a W H z s y := by
  obtain ⟨cs, hq⟩ := P.blk
  obtain ⟨S, L, R, B, C, Q, F, T, nq, nc, nf⟩ := P
  refine ⟨S.turn t ?_, l', Blk.turn R t ?_, b', C.turn t ?_ ?_, Blk.turn Q t ?_, F.turn t ?_, T.trans (t.mono (by simp)), nq, nc, nf⟩
  all_goals simp only [List.mem_cons, List.not_mem_nil, or_false, not_or]
  · exact ⟨Blk.ne_ S L (by decide), Blk.ne_ S B.row (by decide)⟩
  · exact ⟨Blk.ne_ R L (by decide), Blk.ne_ R B.row (by decide)⟩
  · exact ⟨Blk.ne_ hq L (by decide), Blk.ne_ hq B.row (by decide)⟩
  · rintro i (rfl | rfl)
    · exact .inr ⟨_, _, L, by decide⟩
    · exact .inl rfl
  · exact ⟨Blk.ne_ Q L (by decide), Blk.ne_ Q B.row (by decide)⟩
  · exact ⟨Blk.ne_ F L (by decide), Blk.ne_ F B.row (by decide)⟩
theorem FfP.led (P : FfP w0 w p g r b d q c f k a W H z s x) (t : Turn [g] w w') (l' : LedAt w' g y) : FfP w0 w' p g r b d q c f k a W H z s y :=
  P.take (t.mono (by simp)) (P.S.turn t (by simpa using Blk.ne_ P.S P.L (by decide))) l'
theorem FfP.below (P : FfP w0 w p g r b d q c f k a W H z s x) (t : Below w.heap.size w w') : FfP w0 w' p g r b d q c f k a W H z s x :=
  P.take (Turn.of_below t) (Blk.below P.S t (Blk.lt P.S)) (Blk.below P.L t (Blk.lt P.L))
end
/-- what the pixels' reading leaves -/
structure FfE (w0 w : World) (p g r b d W H z : Nat) (l : List UInt8) (y : Led) : Prop where
  L : LedAt w g y
  R : RasAt w r g b (W : Int) (H : Int) true
  B : BufAt w b g d l
  len : l.length = z
  ok : y.Ok
  y1 : (z : Int) ≤ y.bytes
  T : Turn [p, g, d] w0 w
theorem FfP.fin {w0 w : World} {p g r b d q c f k a W H z : Nat} {s : ByteArray} {x : Led} {u v e : Value} (P : FfP w0 w p g r b d q c f k a W H z s x) (hk : 4 * k ≤ z) (ok : x.Ok) (hb : (z : Int) ≤ x.bytes) : FfE w0 (st3 w f u v e) p g r b d W H z (ffL s z k) x :=
  ⟨Blk.st3 P.L (Blk.ne_ P.L P.F (by decide)), Blk.st3 P.R (Blk.ne_ P.R P.F (by decide)), ⟨Blk.st3 P.B.blk (Blk.ne_ P.B.blk P.F (by decide)), Blk.st3 P.B.row (Blk.ne_ P.B.row P.F (by decide))⟩, ffL_len hk, ok, hb, Turn.st3 P.T (.inr P.nf)⟩
/-- at a pixel: what is still to be read tells D -/
def FfI (w0 w : World) (p g r b d q c f W H N z : Nat) (s : ByteArray) (D : Led × DRes) (k : Nat) : Prop :=
  ∃ (a : Nat) (x : Led), 16 + 8 * k = a ∧ a ≤ s.size ∧ FfP w0 w p g r b d q c f k a W H z s x ∧ x.Ok ∧ x.reason = 0 ∧ (z : Int) ≤ x.bytes ∧ (ffPix s W H z (N - k) k).run x = D
theorem ffPix_spent {s : ByteArray} {W H z n k : Nat} {x y : Led} (e : x.work 1 = (y, false)) : (ffPix s W H z (n + 1) k).run x = ((y.give (z : Int)).1, .bad 4 (16 + 8 * k)) := by
  unfold ffPix Dec.run
  rw [e]
  simp
theorem ffPix_short {s : ByteArray} {W H z n k : Nat} {x y : Led} (e : x.work 1 = (y, true)) (h : ¬ 16 + 8 * k + 8 ≤ s.size) : (ffPix s W H z (n + 1) k).run x = ((y.give (z : Int)).1, .bad 1 s.size) := by
  unfold ffPix Dec.run
  rw [e, if_neg h]
  simp [Dec.run]
theorem ffPix_spent2 {s : ByteArray} {W H z n k : Nat} {x y y2 : Led} (e : x.work 1 = (y, true)) (h : 16 + 8 * k + 8 ≤ s.size) (e2 : y.work 1 = (y2, false)) : (ffPix s W H z (n + 1) k).run x = ((y2.give (z : Int)).1, .bad 4 (16 + 8 * k + 8)) := by
  unfold ffPix Dec.run
  rw [e, if_pos h]
  simp [Dec.run, e2]
theorem ffPix_next {s : ByteArray} {W H z n k : Nat} {x y y2 : Led} (e : x.work 1 = (y, true)) (h : 16 + 8 * k + 8 ≤ s.size) (e2 : y.work 1 = (y2, true)) : (ffPix s W H z (n + 1) k).run x = (ffPix s W H z n (k + 1)).run y2 := by
  rw [ffPix, Dec.run, e, if_pos h]
  simp [Dec.run, e2]
end Go.Proofs.YtgmgcfjllijhgaaGreat
