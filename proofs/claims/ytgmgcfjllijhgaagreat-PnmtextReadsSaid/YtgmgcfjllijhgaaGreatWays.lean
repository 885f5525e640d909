/- Readings told with all their ways at once: what a budget refuses, what is too short, what is read; a pixel's change; a raster in the making. -/
import Derived.Test.YtgmgcfjllijhgaaGreatTake
import Derived.Test.YtgmgcfjllijhgaaGreatDecLaw
import Derived.Test.YtgmgcfjllijhgaaGreatCols
namespace Go.Proofs.YtgmgcfjllijhgaaGreat
open Go.RowKit
set_option linter.unusedVariables false
set_option linter.unusedSimpArgs false

/-- a reading that failed: its fault's kind and place -/
def NoRead (y : Led) (a t kk aa : Nat) : Prop := (y.reason ≠ 0 ∧ kk = 4 ∧ aa = a) ∨ (y.reason = 0 ∧ kk = 1 ∧ aa = t)
theorem NoRead.ne {y : Led} {a t kk aa : Nat} (h : NoRead y a t kk aa) : kk ≠ 0 := by rcases h with ⟨_, rfl, _⟩ | ⟨_, rfl, _⟩ <;> decide
theorem led_work_ways {x : Led} (n : Int) (ok : x.Ok) (hx : x.reason = 0) : (∃ y, x.work n = (y, false) ∧ y.Ok ∧ y.reason ≠ 0 ∧ y.bytes = x.bytes) ∨ (∃ y, x.work n = (y, true) ∧ y.Ok ∧ y.reason = 0 ∧ y.bytes = x.bytes) := by
  obtain ⟨y, v, hw⟩ : ∃ y v, x.work n = (y, v) := ⟨_, _, rfl⟩
  have yok : y.Ok := by have := ok.work n; rw [hw] at this; exact this
  cases v with
  | false =>
    have yno := led_work_no (x := x) (n := n) (by rw [hw]) hx
    rw [hw] at yno
    have e : y = x.refused 3 n := yno
    exact .inl ⟨y, hw, yok, by rw [e]; simp [Led.refused], by rw [e]; rfl⟩
  | true =>
    obtain ⟨_, h1, h2, _⟩ := led_work_yes (x := x) (n := n) (by rw [hw])
    rw [hw] at h1 h2
    exact .inr ⟨y, hw, yok, h1, h2⟩
/-- what a refused or a short reading makes of the rest -/
def NoRun (x y : Led) (a t : Nat) (c : Prop) [Decidable c] (kk aa : Nat) : Prop := ∀ z k, (Dec.work 1 z a (if c then k else .give z (.fin (.bad 1 t)))).run x = ((y.give (z : Int)).1, .bad kk aa)
theorem noRun_spent {x y : Led} {a t : Nat} {c : Prop} [Decidable c] (e : x.work 1 = (y, false)) : NoRun x y a t c 4 a := by
  intro z k
  exact run_work_no e
theorem noRun_short {x y : Led} {a t : Nat} {c : Prop} [Decidable c] (e : x.work 1 = (y, true)) (h : ¬ c) : NoRun x y a t c 1 t := by
  intro z k
  rw [run_work_yes e, if_neg h]
  rfl
section
variable {w w' : World} {p g : Nat} {s : ByteArray} {f t a : Nat} {x y : Led}
/-- the ways of a reading of n bytes: what is told -/
def ReadPost (w w' : World) (p g : Nat) (s : ByteArray) (f t a n : Nat) (x : Led) (e : Ending) (no yes : Value) : Prop :=
  ∃ y, LedAt w' g y ∧ y.Ok ∧ y.bytes = x.bytes ∧ Turn [p, g] w w' ∧
    ((∃ kk aa, e = .returned (.tuple #[no, .bool false]) ∧ SrcAt w' p g s f t a ∧ NoRead y a t kk aa ∧ NoRun x y a t (a + n ≤ t) kk aa) ∨
     (e = .returned (.tuple #[yes, .bool true]) ∧ SrcAt w' p g s f t (a + n) ∧ y.reason = 0 ∧ a + n ≤ t ∧ x.work 1 = (y, true)))
theorem srcU8_ways (h : SrcAt w p g s f t a) (o : SrcOk s f t a) (k : LedAt w g x) (ok : x.Ok) (hx : x.reason = 0) :
    Calls Tryz.prog 79 #[.pointer (some ⟨p, 0, none⟩)] w fun e w' => ReadPost w w' p g s f t a 1 x e (.int .i64 0) (.int .i64 (bat s a : Int)) := by
  rcases led_work_ways 1 ok hx with ⟨y, e, yok, yr, yb⟩ | ⟨y, e, yok, yr, yb⟩
  · refine (srcU8_spent h k ok e).mono ?_
    rintro e' w' ⟨rfl, q1, q2, q3⟩
    exact ⟨y, q2, yok, yb, q3, .inl ⟨4, a, rfl, q1, .inl ⟨yr, rfl, rfl⟩, noRun_spent e⟩⟩
  · by_cases ha : a < t
    · refine (srcU8_yes h o k ok e ha).mono ?_
      rintro e' w' ⟨rfl, q1, q2, q3⟩
      exact ⟨y, q2, yok, yb, q3, .inr ⟨rfl, q1, yr, ha, e⟩⟩
    · refine (srcU8_short h o k ok e ha).mono ?_
      rintro e' w' ⟨rfl, q1, q2, q3⟩
      exact ⟨y, q2, yok, yb, q3, .inl ⟨1, t, rfl, q1, .inr ⟨yr, rfl, rfl⟩, noRun_short e ha⟩⟩
theorem srcFault_is {kk aa : Nat} (m : Int) (h : SrcAt w p g s f t a) (k : LedAt w g x) (hk : NoRead x a t kk aa) :
    Calls Tryz.prog 50 #[.pointer (some ⟨p, 0, none⟩), .int .i64 m] w fun e w' => e = .returned (.agg #[.int .i64 (kk : Int), .int .i64 m, .int .i64 (aa : Int)]) ∧ Below w.heap.size w w' := by
  rcases hk with ⟨hx, rfl, rfl⟩ | ⟨hx, rfl, rfl⟩
  · exact srcFault_spent m h k hx
  · exact srcFault_short m h k hx
end
/-- the ways of a pixel's change: what is told -/
def SetPost (w w' : World) (b g d i : Nat) (l q : List UInt8) (x : Led) (e : Ending) : Prop :=
  ∃ y, LedAt w' g y ∧ y.Ok ∧ y.bytes = x.bytes ∧
    ((e = .returned (.bool false) ∧ Turn [g] w w' ∧ y.reason ≠ 0 ∧ ∀ z a k, (Dec.work 1 z a k).run x = ((y.give (z : Int)).1, .bad 4 a)) ∨
     (e = .returned (.bool true) ∧ Turn [g, d] w w' ∧ BufAt w' b g d (over l i q) ∧ y.reason = 0 ∧ ∀ z a k, (Dec.work 1 z a k).run x = k.run y))
theorem rasSet_ways {w : World} {r g b d : Nat} {l : List UInt8} {x : Led} {X Y W H p i : Nat} {c0 c1 c2 c3 : UInt8} (h : RasAt w r g b (W : Int) (H : Int) true) (hm : BufAt w b g d l) (hL : LedAt w g x) (ok : x.Ok) (hx : x.reason = 0) (hX : X < W) (hY : Y < H) (hp : Y * W = p) (hi : 4 * (p + X) = i) (hp1 : p ≤ 1073741824) (hW : W ≤ 16384) (hH : H ≤ 16384) (hl : i + 4 ≤ l.length) (hs : l.length ≤ 1099511627776) :
    Calls Tryz.prog 69 #[.pointer (some ⟨r, 0, none⟩), .int .i64 (X : Int), .int .i64 (Y : Int), .agg #[.int .u8 (c0.toNat : Int), .int .u8 (c1.toNat : Int), .int .u8 (c2.toNat : Int), .int .u8 (c3.toNat : Int)]] w fun e w' => SetPost w w' b g d i l [c0, c1, c2, c3] x e := by
  rcases led_work_ways 1 ok hx with ⟨y, e, yok, yr, yb⟩ | ⟨y, e, yok, yr, yb⟩
  · refine (rasSet_spent h hm hL ok e hX hY hp hi hp1 hW hH hl hs).mono ?_
    rintro e' w' ⟨rfl, q1, q2⟩
    exact ⟨y, q1, yok, yb, .inl ⟨rfl, q2, yr, fun z a k => run_work_no e⟩⟩
  · refine (rasSet_yes h hm hL ok e hX hY hp hi hp1 hW hH hl hs).mono ?_
    rintro e' w' ⟨rfl, q1, q2, q3⟩
    exact ⟨y, q2, yok, yb, .inr ⟨rfl, q3, q1, yr, fun z a k => run_work_yes e⟩⟩
/-- a raster in the making: source, ledger, raster, bytes, a fault's box -/
structure PixI (w0 w : World) (p g r b d f fr t a W H : Nat) (s : ByteArray) (l : List UInt8) (x : Led) : Prop where
  S : SrcAt w p g s fr t a
  L : LedAt w g x
  R : RasAt w r g b (W : Int) (H : Int) true
  B : BufAt w b g d l
  F : FB w f 0 0 0
  T : Turn [p, g, d] w0 w
  nf : w0.heap.size ≤ f
section
variable {w0 w w' : World} {p g r b d f fr t a a' W H : Nat} {s : ByteArray} {l l' : List UInt8} {x y : Led} {i : Nat} {tt : TypeId} {cs : Array Value}
theorem PixI.take (P : PixI w0 w p g r b d f fr t a W H s l x) (k : Turn [p, g] w w') (s' : SrcAt w' p g s fr t a') (l' : LedAt w' g y) : PixI w0 w' p g r b d f fr t a' W H s l y := by
  obtain ⟨S, L, R, B, F, T, nf⟩ := P
  refine ⟨s', l', Blk.turn R k ?_, B.turn k ?_ ?_, F.turn k ?_, T.trans (k.mono (by simp)), nf⟩
  all_goals simp only [List.mem_cons, List.not_mem_nil, or_false, not_or]
  · exact ⟨Blk.ne_ R S (by decide), Blk.ne_ R L (by decide)⟩
  · exact ⟨Blk.ne_ B.blk S (by decide), Blk.ne_ B.blk L (by decide)⟩
  · exact ⟨Blk.ne_ B.row S (by decide), Blk.ne_ B.row L (by decide)⟩
  · exact ⟨Blk.ne_ F S (by decide), Blk.ne_ F L (by decide)⟩
theorem PixI.led (P : PixI w0 w p g r b d f fr t a W H s l x) (k : Turn [g] w w') (l' : LedAt w' g y) : PixI w0 w' p g r b d f fr t a W H s l y :=
  P.take (k.mono (by simp)) (P.S.turn k (by simpa using Blk.ne_ P.S P.L (by decide))) l'
theorem PixI.set (P : PixI w0 w p g r b d f fr t a W H s l x) (k : Turn [g, d] w w') (b' : BufAt w' b g d l') (m : LedAt w' g y) : PixI w0 w' p g r b d f fr t a W H s l' y := by
  obtain ⟨S, L, R, B, F, T, nf⟩ := P
  refine ⟨S.turn k ?_, m, Blk.turn R k ?_, b', F.turn k ?_, T.trans (k.mono (by simp)), nf⟩
  all_goals simp only [List.mem_cons, List.not_mem_nil, or_false, not_or]
  · exact ⟨Blk.ne_ S L (by decide), Blk.ne_ S B.row (by decide)⟩
  · exact ⟨Blk.ne_ R L (by decide), Blk.ne_ R B.row (by decide)⟩
  · exact ⟨Blk.ne_ F L (by decide), Blk.ne_ F B.row (by decide)⟩
/-- a step on a new block of another type -/
theorem PixI.own (P : PixI w0 w p g r b d f fr t a W H s l x) {k : Nat} (hk : Blk w k tt cs) (hn : w0.heap.size ≤ k) (u : Turn [k] w w') (h1 : tt ≠ 113) (h2 : tt ≠ 103) (h3 : tt ≠ 127) (h4 : tt ≠ 158) (h5 : tt ≠ 5) (h6 : tt ≠ 34) : PixI w0 w' p g r b d f fr t a W H s l x := by
  obtain ⟨S, L, R, B, F, T, nf⟩ := P
  exact ⟨S.turn u (by simpa using Blk.ne_ S hk h1.symm), L.turn u (by simpa using Blk.ne_ L hk h2.symm), Blk.turn R u (by simpa using Blk.ne_ R hk h3.symm), B.turn u (by simpa using Blk.ne_ B.blk hk h4.symm) (by simpa using Blk.ne_ B.row hk h5.symm), F.turn u (by simpa using Blk.ne_ F hk h6.symm), T.next u (fun i hi => .inr (by simp only [List.mem_cons, List.not_mem_nil, or_false] at hi; omega)), nf⟩
theorem PixI.below (P : PixI w0 w p g r b d f fr t a W H s l x) (k : Below w.heap.size w w') : PixI w0 w' p g r b d f fr t a W H s l x :=
  P.take (Turn.of_below k) (Blk.below P.S k (Blk.lt P.S)) (Blk.below P.L k (Blk.lt P.L))
theorem PixI.drew (P : PixI w0 w p g r b d f fr t a W H s l x) : PixI w0 w.drew p g r b d f fr t a W H s l x := ⟨P.S, P.L, P.R, ⟨P.B.blk, P.B.row⟩, P.F, P.T.drew, P.nf⟩
theorem PixI.alloc (P : PixI w0 w p g r b d f fr t a W H s l x) (o : Obj) : PixI w0 (w.alloc o) p g r b d f fr t a W H s l x := P.below ((Below.refl _ _).alloc (Nat.le_refl _) _)
/-- another block stays over a reading -/
theorem PixI.keepT (P : PixI w0 w p g r b d f fr t a W H s l x) {k : Nat} (hk : Blk w k tt cs) (u : Turn [p, g] w w') (h1 : tt ≠ 113) (h2 : tt ≠ 103) : Blk w' k tt cs :=
  Blk.turn hk u (by simp only [List.mem_cons, List.not_mem_nil, or_false, not_or]; exact ⟨Blk.ne_ hk P.S h1, Blk.ne_ hk P.L h2⟩)
/-- and over a pixel's change -/
theorem PixI.keepS (P : PixI w0 w p g r b d f fr t a W H s l x) {k : Nat} (hk : Blk w k tt cs) (u : Turn [g, d] w w') (h2 : tt ≠ 103) (h5 : tt ≠ 5) : Blk w' k tt cs :=
  Blk.turn hk u (by simp only [List.mem_cons, List.not_mem_nil, or_false, not_or]; exact ⟨Blk.ne_ hk P.L h2, Blk.ne_ hk P.B.row h5⟩)
theorem PixI.keepG (P : PixI w0 w p g r b d f fr t a W H s l x) {k : Nat} (hk : Blk w k tt cs) (u : Turn [g] w w') (h2 : tt ≠ 103) : Blk w' k tt cs :=
  Blk.turn hk u (by simpa using Blk.ne_ hk P.L h2)
end
/-- what a reading of pixels leaves: ledger, raster, bytes -/
structure PixE (w0 w : World) (p g r b d W H z : Nat) (l : List UInt8) (y : Led) : Prop where
  L : LedAt w g y
  R : RasAt w r g b (W : Int) (H : Int) true
  B : BufAt w b g d l
  len : l.length = z
  ok : y.Ok
  y1 : (z : Int) ≤ y.bytes
  T : Turn [p, g, d] w0 w
theorem PixI.fin {w0 w : World} {p g r b d f fr t a W H z : Nat} {s : ByteArray} {l : List UInt8} {x : Led} {u v e : Value} (P : PixI w0 w p g r b d f fr t a W H s l x) (hl : l.length = z) (ok : x.Ok) (hb : (z : Int) ≤ x.bytes) : PixE w0 (st3 w f u v e) p g r b d W H z l x :=
  ⟨Blk.st3 P.L (Blk.ne_ P.L P.F (by decide)), Blk.st3 P.R (Blk.ne_ P.R P.F (by decide)), ⟨Blk.st3 P.B.blk (Blk.ne_ P.B.blk P.F (by decide)), Blk.st3 P.B.row (Blk.ne_ P.B.row P.F (by decide))⟩, hl, ok, hb, Turn.st3 P.T (.inr P.nf)⟩
theorem PixI.src {w0 w : World} {p g r b d f fr t a W H : Nat} {s : ByteArray} {l : List UInt8} {x : Led} {u v e : Value} (P : PixI w0 w p g r b d f fr t a W H s l x) : SrcAt (st3 w f u v e) p g s fr t a := Blk.st3 P.S (Blk.ne_ P.S P.F (by decide))
/-- a raster whose first pixels are told -/
def pixL (L : List Qc) (z : Nat) : List UInt8 := flat L ++ List.replicate (z - 4 * L.length) 0
theorem pixL_len {L : List Qc} {z : Nat} (h : 4 * L.length ≤ z) : (pixL L z).length = z := by
  unfold pixL
  rw [List.length_append, flat_len, List.length_replicate]
  omega
theorem over_at {a b : List UInt8} {z : Nat} (ha : a.length = z) (q : List UInt8) (hb : q.length ≤ b.length) : over (a ++ b) z q = a ++ q ++ b.drop q.length := by
  subst ha
  unfold over
  rw [List.take_left, ← List.drop_drop, List.drop_left]
theorem pixL_next {L : List Qc} {z : Nat} (c : Qc) (h : 4 * (L.length + 1) ≤ z) : over (pixL L z) (4 * L.length) [c.r, c.g, c.b, c.a] = pixL (L ++ [c]) z := by
  unfold pixL
  rw [over_at (flat_len L) _ (by simp only [List.length_cons, List.length_nil, List.length_replicate]; omega), flat_append, List.drop_replicate]
  have e : flat [c] = [c.r, c.g, c.b, c.a] := by simp [flat, Qc.list]
  rw [e, List.length_append]
  congr 2
theorem pixL_nil (z : Nat) : pixL [] z = List.replicate z 0 := by unfold pixL; simp [flat]
theorem pixL_all {L : List Qc} {z : Nat} (h : 4 * L.length = z) : pixL L z = flat L := by unfold pixL; rw [h, Nat.sub_self]; simp
end Go.Proofs.YtgmgcfjllijhgaaGreat
