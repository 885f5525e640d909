/- A source's Take; a pixel's change that the budget refuses; a fault's box. Readings told with all their ways at once: what a budget refuses, what is too short, what is read; a pixel's change; a raster in the making. The ways of a number, of a digit, of one byte: what is read, or told, by whatever budget. -/
import Derived.Test.YthljhebbblhakaaGreatDoorEBits
import Derived.Test.YthljhebbblhakaaGreatDoorERas
import Derived.Test.YthljhebbblhakaaGreatDoorEPnmHead
import Derived.Test.YthljhebbblhakaaGreatDoorEPnmBst
import Derived.Test.YthljhebbblhakaaGreatDoorEPnmD
import Derived.Test.YthljhebbblhakaaGreatDoorETok4
import Derived.Test.YthljhebbblhakaaGreatDoorENum
namespace Go.Proofs.YthljhebbblhakaaGreatDoor
open Go.RowKit
set_option linter.unusedVariables false
set_option linter.unusedSimpArgs false

set_option maxRecDepth 100000 in
set_option maxHeartbeats 1000000 in
/-- a pixel's change that the budget refuses -/
theorem rasSet_spent {w : World} {r g b d : Nat} {l : List UInt8} {x y : Led} {X Y W H p i : Nat} {c0 c1 c2 c3 : UInt8} (h : RasAt w r g b (W : Int) (H : Int) true) (hm : BufAt w b g d l) (hL : LedAt w g x) (ok : x.Ok) (he : x.work 1 = (y, false)) (hX : X < W) (hY : Y < H) (hp : Y * W = p) (hi : 4 * (p + X) = i) (hp1 : p ≤ 1073741824) (hW : W ≤ 16384) (hH : H ≤ 16384) (hl : i + 4 ≤ l.length) (hs : l.length ≤ 1099511627776) :
    Calls Tryz.prog 60 #[.pointer (some ⟨r, 0, none⟩), .int .i64 (X : Int), .int .i64 (Y : Int), .agg #[.int .u8 (c0.toNat : Int), .int .u8 (c1.toNat : Int), .int .u8 (c2.toNat : Int), .int .u8 (c3.toNat : Int)]] w fun e w' => e = .returned (.bool false) ∧ LedAt w' g y ∧ Turn [g] w w' := by
  have hbg := hm.bg hL
  have hdg := hm.dg hL
  have hbd := hm.bd
  have hrg : r ≠ g := Blk.ne_ h hL (by decide)
  have hrd : r ≠ d := Blk.ne_ h hm.row (by decide)
  obtain ⟨wb, hwb⟩ : ∃ wb, wb = w.alloc (.cells #[.int .u8 (c0.toNat : Int), .int .u8 (c1.toNat : Int), .int .u8 (c2.toNat : Int), .int .u8 (c3.toNat : Int)] 48) := ⟨_, rfl⟩
  have h1 : RasAt wb r g b (W : Int) (H : Int) true := hwb ▸ Blk.alloc h _
  have m1 : BufAt wb b g d l := hwb ▸ ⟨hm.blk.alloc _, hm.row.alloc _⟩
  have l1 : LedAt wb g x := hwb ▸ Blk.alloc hL _
  have k1 : CB wb w.heap.size c0.toNat c1.toNat c2.toNat c3.toNat := hwb ▸ Blk.new _ _ _
  have t1 : Turn [g] w wb := hwb ▸ (Turn.refl _ _).alloc _
  have hgl := Blk.lt hL
  have HA := Lib.hid (rasAt_yes h1 hX hY hp hi hp1 hW hH)
  have HR := Lib.hid h1
  have HM := Lib.hid m1
  have HL := Lib.hid l1
  have HK := Lib.hid k1
  have HT := Lib.hid t1
  have HOK := Lib.hid ok
  have HE := Lib.hid he
  have HLL := Lib.hid hl
  have d0 := h1.l
  rw [hwb] at HA HR HM HL HK HT d0
  obtain ⟨i0, i1, i2, i3⟩ := idx4 (.int .u8 (c0.toNat : Int)) (.int .u8 (c1.toNat : Int)) (.int .u8 (c2.toNat : Int)) (.int .u8 (c3.toNat : Int))
  obtain ⟨j1, hj1⟩ : ∃ j, j = i + 1 := ⟨_, rfl⟩
  obtain ⟨j2, hj2⟩ : ∃ j, j = i + 2 := ⟨_, rfl⟩
  obtain ⟨j3, hj3⟩ : ∃ j, j = i + 3 := ⟨_, rfl⟩
  have e1 : (i : Int) + 1 = (j1 : Int) := by omega
  have e2 : (i : Int) + 2 = (j2 : Int) := by omega
  have e3 : (i : Int) + 3 = (j3 : Int) := by omega
  have hib : i ≤ 1099511627776 := by omega
  have HJ := Lib.hid (And.intro hj1 (And.intro hj2 hj3))
  have rl := Blk.lt h
  clear h hm hL ok he h1 m1 l1 k1 t1 hp hi hl hwb hj1 hj2 hj3
  go_enter Tryz.func60, Tryz.ntmps60
  go_wp2_with (first
    | (go_at_call 81; refine HA.out.mono ?_; rintro e w9 ⟨rfl, rfl⟩)
    | (go_at_call 82; refine (work_at HL.out HOK.out HE.out).mono ?_; rintro e w1 ⟨rfl, l2, b1⟩; have t2 : Turn [g] _ w1 := Turn.of_grown b1 (by simp); have R2 : RasAt w1 r g b (W : Int) (H : Int) true := Blk.turn HR.out t2 (by simpa using hrg); have M2 : BufAt w1 b g d l := HM.out.turn t2 (by simpa using hbg) (by simpa using hdg); have K2 : CB w1 w.heap.size c0.toNat c1.toNat c2.toNat c3.toNat := Blk.turn HK.out t2 (by simp; omega); have T2 : Turn [g] w w1 := HT.out.trans t2))
  go_ret
  exact ⟨rfl, l2, T2⟩
/-- a fault's box -/
def fl3 (k f a : Int) : Array Value := #[.int .i64 k, .int .i64 f, .int .i64 a]
def FB (w : World) (b : Nat) (k f a : Int) : Prop := Blk w b 33 (fl3 k f a)
def st3 (w : World) (b : Nat) (u v x : Value) : World := ((w.setCell ⟨b, 0, none⟩ u).setCell ⟨b, 1, none⟩ v).setCell ⟨b, 2, none⟩ x
section
variable {w w' a : World} {b g : Nat} {k f i k' f' i' : Int} {t : TypeId} {cs : Array Value} {u v x : Value} {S : List Nat}
theorem FB.new (w : World) : FB (w.alloc (.cells #[.int .i64 0, .int .i64 0, .int .i64 0] 33)) w.heap.size 0 0 0 := Blk.new _ _ _
theorem FB.st3 (h : FB w b k f i) : FB (st3 w b (.int .i64 k') (.int .i64 f') (.int .i64 i')) b k' f' i' := ((Blk.set_ (Blk.set_ (Blk.set_ h 0 _) 1 _) 2 _)).eq_ (by simp [fl3])
theorem FB.all (h : FB w b k f i) : w.cell? ⟨b, 0, none⟩ = some (.int .i64 k) ∧ w.cell? ⟨b, 1, none⟩ = some (.int .i64 f) ∧ w.cell? ⟨b, 2, none⟩ = some (.int .i64 i) ∧ w.frozen? ⟨b, 0, none⟩ = false ∧ w.frozen? ⟨b, 1, none⟩ = false ∧ w.frozen? ⟨b, 2, none⟩ = false ∧ b < w.heap.size :=
  ⟨Blk.cell h 0, Blk.cell h 1, Blk.cell h 2, Blk.frozen h 0, Blk.frozen h 1, Blk.frozen h 2, Blk.lt h⟩
theorem FB.turn (h : FB w b k f i) (t : Turn S w w') (hb : b ∉ S) : FB w' b k f i := Blk.turn h t hb
theorem FB.below (h : FB w b k f i) (t : Below w.heap.size w w') : FB w' b k f i := Blk.below h t (Blk.lt h)
theorem Blk.st3 (h : Blk w g t cs) (hb : g ≠ b) : Blk (st3 w b u v x) g t cs := Blk.far (Blk.far (Blk.far h (p := ⟨b, 0, none⟩) hb _) (p := ⟨b, 1, none⟩) hb _) (p := ⟨b, 2, none⟩) hb _
theorem Turn.st3 (h : Turn S a w) (hb : b ∈ S ∨ a.heap.size ≤ b) : Turn S a (st3 w b u v x) := ((h.set_ 0 u hb).set_ 1 v hb).set_ 2 x hb
end
end Go.Proofs.YthljhebbblhakaaGreatDoor
namespace Go.Proofs.YthljhebbblhakaaGreatDoor
open Go.RowKit
set_option linter.unusedVariables false
set_option linter.unusedSimpArgs false

/-- a reading that failed: its fault's kind and place -/
def NoRead (y : Led) (a t kk aa : Nat) : Prop := (y.reason ≠ 0 ∧ kk = 4 ∧ aa = a) ∨ (y.reason = 0 ∧ kk = 1 ∧ aa = t)
theorem NoRead.ne {y : Led} {a t kk aa : Nat} (h : NoRead y a t kk aa) : kk ≠ 0 := by rcases h with ⟨_, rfl, _⟩ | ⟨_, rfl, _⟩ <;> decide
theorem led_work_ways {x : Led} (n : Int) (ok : x.Ok) (hx : x.reason = 0) : (∃ y, x.work n = (y, false) ∧ y.Ok ∧ y.reason ≠ 0 ∧ y.bytes = x.bytes) ∨ (∃ y, x.work n = (y, true) ∧ y.Ok ∧ y.reason = 0 ∧ y.bytes = x.bytes) := by
  obtain ⟨y, v, hw⟩ : ∃ y v, x.work n = (y, v) := ⟨_, _, rfl⟩
  have yok : y.Ok := by have := ok.work n; rw [hw] at this; exact this
  cases v with
  | false =>
    have yno := led_work_no (x := x) (n := n) (by rw [hw]) hx
    rw [hw] at yno
    have e : y = x.refused 3 n := yno
    exact .inl ⟨y, hw, yok, by rw [e]; simp [Led.refused], by rw [e]; rfl⟩
  | true =>
    obtain ⟨_, h1, h2, _⟩ := led_work_yes (x := x) (n := n) (by rw [hw])
    rw [hw] at h1 h2
    exact .inr ⟨y, hw, yok, h1, h2⟩
/-- what a refused or a short reading makes of the rest -/
def NoRun (x y : Led) (a t : Nat) (c : Prop) [Decidable c] (kk aa : Nat) : Prop := ∀ z k, (Dec.work 1 z a (if c then k else .give z (.fin (.bad 1 t)))).run x = ((y.give (z : Int)).1, .bad kk aa)
theorem noRun_spent {x y : Led} {a t : Nat} {c : Prop} [Decidable c] (e : x.work 1 = (y, false)) : NoRun x y a t c 4 a := by
  intro z k
  exact run_work_no e
theorem noRun_short {x y : Led} {a t : Nat} {c : Prop} [Decidable c] (e : x.work 1 = (y, true)) (h : ¬ c) : NoRun x y a t c 1 t := by
  intro z k
  rw [run_work_yes e, if_neg h]
  rfl
section
variable {w w' : World} {p g : Nat} {s : ByteArray} {f t a : Nat} {x y : Led}
/-- the ways of a reading of n bytes: what is told -/
def ReadPost (w w' : World) (p g : Nat) (s : ByteArray) (f t a n : Nat) (x : Led) (e : Ending) (no yes : Value) : Prop :=
  ∃ y, LedAt w' g y ∧ y.Ok ∧ y.bytes = x.bytes ∧ Turn [p, g] w w' ∧
    ((∃ kk aa, e = .returned (.tuple #[no, .bool false]) ∧ SrcAt w' p g s f t a ∧ NoRead y a t kk aa ∧ NoRun x y a t (a + n ≤ t) kk aa) ∨
     (e = .returned (.tuple #[yes, .bool true]) ∧ SrcAt w' p g s f t (a + n) ∧ y.reason = 0 ∧ a + n ≤ t ∧ x.work 1 = (y, true)))
theorem srcU8_ways (h : SrcAt w p g s f t a) (o : SrcOk s f t a) (k : LedAt w g x) (ok : x.Ok) (hx : x.reason = 0) :
    Calls Tryz.prog 69 #[.pointer (some ⟨p, 0, none⟩)] w fun e w' => ReadPost w w' p g s f t a 1 x e (.int .i64 0) (.int .i64 (bat s a : Int)) := by
  rcases led_work_ways 1 ok hx with ⟨y, e, yok, yr, yb⟩ | ⟨y, e, yok, yr, yb⟩
  · refine (srcU8_spent h k ok e).mono ?_
    rintro e' w' ⟨rfl, q1, q2, q3⟩
    exact ⟨y, q2, yok, yb, q3, .inl ⟨4, a, rfl, q1, .inl ⟨yr, rfl, rfl⟩, noRun_spent e⟩⟩
  · by_cases ha : a < t
    · refine (srcU8_yes h o k ok e ha).mono ?_
      rintro e' w' ⟨rfl, q1, q2, q3⟩
      exact ⟨y, q2, yok, yb, q3, .inr ⟨rfl, q1, yr, ha, e⟩⟩
    · refine (srcU8_short h o k ok e ha).mono ?_
      rintro e' w' ⟨rfl, q1, q2, q3⟩
      exact ⟨y, q2, yok, yb, q3, .inl ⟨1, t, rfl, q1, .inr ⟨yr, rfl, rfl⟩, noRun_short e ha⟩⟩
theorem srcFault_is {kk aa : Nat} (m : Int) (h : SrcAt w p g s f t a) (k : LedAt w g x) (hk : NoRead x a t kk aa) :
    Calls Tryz.prog 43 #[.pointer (some ⟨p, 0, none⟩), .int .i64 m] w fun e w' => e = .returned (.agg #[.int .i64 (kk : Int), .int .i64 m, .int .i64 (aa : Int)]) ∧ Below w.heap.size w w' := by
  rcases hk with ⟨hx, rfl, rfl⟩ | ⟨hx, rfl, rfl⟩
  · exact srcFault_spent m h k hx
  · exact srcFault_short m h k hx
end
/-- the ways of a pixel's change: what is told -/
def SetPost (w w' : World) (b g d i : Nat) (l q : List UInt8) (x : Led) (e : Ending) : Prop :=
  ∃ y, LedAt w' g y ∧ y.Ok ∧ y.bytes = x.bytes ∧
    ((e = .returned (.bool false) ∧ Turn [g] w w' ∧ y.reason ≠ 0 ∧ ∀ z a k, (Dec.work 1 z a k).run x = ((y.give (z : Int)).1, .bad 4 a)) ∨
     (e = .returned (.bool true) ∧ Turn [g, d] w w' ∧ BufAt w' b g d (over l i q) ∧ y.reason = 0 ∧ ∀ z a k, (Dec.work 1 z a k).run x = k.run y))
theorem rasSet_ways {w : World} {r g b d : Nat} {l : List UInt8} {x : Led} {X Y W H p i : Nat} {c0 c1 c2 c3 : UInt8} (h : RasAt w r g b (W : Int) (H : Int) true) (hm : BufAt w b g d l) (hL : LedAt w g x) (ok : x.Ok) (hx : x.reason = 0) (hX : X < W) (hY : Y < H) (hp : Y * W = p) (hi : 4 * (p + X) = i) (hp1 : p ≤ 1073741824) (hW : W ≤ 16384) (hH : H ≤ 16384) (hl : i + 4 ≤ l.length) (hs : l.length ≤ 1099511627776) :
    Calls Tryz.prog 60 #[.pointer (some ⟨r, 0, none⟩), .int .i64 (X : Int), .int .i64 (Y : Int), .agg #[.int .u8 (c0.toNat : Int), .int .u8 (c1.toNat : Int), .int .u8 (c2.toNat : Int), .int .u8 (c3.toNat : Int)]] w fun e w' => SetPost w w' b g d i l [c0, c1, c2, c3] x e := by
  rcases led_work_ways 1 ok hx with ⟨y, e, yok, yr, yb⟩ | ⟨y, e, yok, yr, yb⟩
  · refine (rasSet_spent h hm hL ok e hX hY hp hi hp1 hW hH hl hs).mono ?_
    rintro e' w' ⟨rfl, q1, q2⟩
    exact ⟨y, q1, yok, yb, .inl ⟨rfl, q2, yr, fun z a k => run_work_no e⟩⟩
  · refine (rasSet_yes h hm hL ok e hX hY hp hi hp1 hW hH hl hs).mono ?_
    rintro e' w' ⟨rfl, q1, q2, q3⟩
    exact ⟨y, q2, yok, yb, .inr ⟨rfl, q3, q1, yr, fun z a k => run_work_yes e⟩⟩
/-- a raster in the making: source, ledger, raster, bytes, a fault's box -/
structure PixI (w0 w : World) (p g r b d f fr t a W H : Nat) (s : ByteArray) (l : List UInt8) (x : Led) : Prop where
  S : SrcAt w p g s fr t a
  L : LedAt w g x
  R : RasAt w r g b (W : Int) (H : Int) true
  B : BufAt w b g d l
  F : FB w f 0 0 0
  T : Turn [p, g, d] w0 w
  nf : w0.heap.size ≤ f
section
variable {w0 w w' : World} {p g r b d f fr t a a' W H : Nat} {s : ByteArray} {l l' : List UInt8} {x y : Led} {i : Nat} {tt : TypeId} {cs : Array Value}
theorem PixI.take (P : PixI w0 w p g r b d f fr t a W H s l x) (k : Turn [p, g] w w') (s' : SrcAt w' p g s fr t a') (l' : LedAt w' g y) : PixI w0 w' p g r b d f fr t a' W H s l y := by
  obtain ⟨S, L, R, B, F, T, nf⟩ := P
  refine ⟨s', l', Blk.turn R k ?_, B.turn k ?_ ?_, F.turn k ?_, T.trans (k.mono (by simp)), nf⟩
  all_goals simp only [List.mem_cons, List.not_mem_nil, or_false, not_or]
  · exact ⟨Blk.ne_ R S (by decide), Blk.ne_ R L (by decide)⟩
  · exact ⟨Blk.ne_ B.blk S (by decide), Blk.ne_ B.blk L (by decide)⟩
  · exact ⟨Blk.ne_ B.row S (by decide), Blk.ne_ B.row L (by decide)⟩
  · exact ⟨Blk.ne_ F S (by decide), Blk.ne_ F L (by decide)⟩
theorem PixI.set (P : PixI w0 w p g r b d f fr t a W H s l x) (k : Turn [g, d] w w') (b' : BufAt w' b g d l') (m : LedAt w' g y) : PixI w0 w' p g r b d f fr t a W H s l' y := by
  obtain ⟨S, L, R, B, F, T, nf⟩ := P
  refine ⟨S.turn k ?_, m, Blk.turn R k ?_, b', F.turn k ?_, T.trans (k.mono (by simp)), nf⟩
  all_goals simp only [List.mem_cons, List.not_mem_nil, or_false, not_or]
  · exact ⟨Blk.ne_ S L (by decide), Blk.ne_ S B.row (by decide)⟩
  · exact ⟨Blk.ne_ R L (by decide), Blk.ne_ R B.row (by decide)⟩
  · exact ⟨Blk.ne_ F L (by decide), Blk.ne_ F B.row (by decide)⟩
/-- a step on a new block of another type -/
theorem PixI.own (P : PixI w0 w p g r b d f fr t a W H s l x) {k : Nat} (hk : Blk w k tt cs) (hn : w0.heap.size ≤ k) (u : Turn [k] w w') (h1 : tt ≠ 96) (h2 : tt ≠ 94) (h3 : tt ≠ 111) (h4 : tt ≠ 137) (h5 : tt ≠ 5) (h6 : tt ≠ 33) : PixI w0 w' p g r b d f fr t a W H s l x := by
  obtain ⟨S, L, R, B, F, T, nf⟩ := P
  exact ⟨S.turn u (by simpa using Blk.ne_ S hk h1.symm), L.turn u (by simpa using Blk.ne_ L hk h2.symm), Blk.turn R u (by simpa using Blk.ne_ R hk h3.symm), B.turn u (by simpa using Blk.ne_ B.blk hk h4.symm) (by simpa using Blk.ne_ B.row hk h5.symm), F.turn u (by simpa using Blk.ne_ F hk h6.symm), T.next u (fun i hi => .inr (by simp only [List.mem_cons, List.not_mem_nil, or_false] at hi; omega)), nf⟩
theorem PixI.below (P : PixI w0 w p g r b d f fr t a W H s l x) (k : Below w.heap.size w w') : PixI w0 w' p g r b d f fr t a W H s l x :=
  P.take (Turn.of_below k) (Blk.below P.S k (Blk.lt P.S)) (Blk.below P.L k (Blk.lt P.L))
theorem PixI.drew (P : PixI w0 w p g r b d f fr t a W H s l x) : PixI w0 w.drew p g r b d f fr t a W H s l x := ⟨P.S, P.L, P.R, ⟨P.B.blk, P.B.row⟩, P.F, P.T.drew, P.nf⟩
theorem PixI.alloc (P : PixI w0 w p g r b d f fr t a W H s l x) (o : Obj) : PixI w0 (w.alloc o) p g r b d f fr t a W H s l x := P.below ((Below.refl _ _).alloc (Nat.le_refl _) _)
end
/-- what a reading of pixels leaves: ledger, raster, bytes -/
structure PixE (w0 w : World) (p g r b d W H z : Nat) (l : List UInt8) (y : Led) : Prop where
  L : LedAt w g y
  R : RasAt w r g b (W : Int) (H : Int) true
  B : BufAt w b g d l
  len : l.length = z
  ok : y.Ok
  y1 : (z : Int) ≤ y.bytes
  T : Turn [p, g, d] w0 w
theorem PixI.fin {w0 w : World} {p g r b d f fr t a W H z : Nat} {s : ByteArray} {l : List UInt8} {x : Led} {u v e : Value} (P : PixI w0 w p g r b d f fr t a W H s l x) (hl : l.length = z) (ok : x.Ok) (hb : (z : Int) ≤ x.bytes) : PixE w0 (st3 w f u v e) p g r b d W H z l x :=
  ⟨Blk.st3 P.L (Blk.ne_ P.L P.F (by decide)), Blk.st3 P.R (Blk.ne_ P.R P.F (by decide)), ⟨Blk.st3 P.B.blk (Blk.ne_ P.B.blk P.F (by decide)), Blk.st3 P.B.row (Blk.ne_ P.B.row P.F (by decide))⟩, hl, ok, hb, Turn.st3 P.T (.inr P.nf)⟩
/-- a raster whose first pixels are told -/
def pixL (L : List Qc) (z : Nat) : List UInt8 := flat L ++ List.replicate (z - 4 * L.length) 0
theorem pixL_len {L : List Qc} {z : Nat} (h : 4 * L.length ≤ z) : (pixL L z).length = z := by
  unfold pixL
  rw [List.length_append, flat_len, List.length_replicate]
  omega
theorem over_at {a b : List UInt8} {z : Nat} (ha : a.length = z) (q : List UInt8) (hb : q.length ≤ b.length) : over (a ++ b) z q = a ++ q ++ b.drop q.length := by
  subst ha
  unfold over
  rw [List.take_left, ← List.drop_drop, List.drop_left]
theorem pixL_next {L : List Qc} {z : Nat} (c : Qc) (h : 4 * (L.length + 1) ≤ z) : over (pixL L z) (4 * L.length) [c.r, c.g, c.b, c.a] = pixL (L ++ [c]) z := by
  unfold pixL
  rw [over_at (flat_len L) _ (by simp only [List.length_cons, List.length_nil, List.length_replicate]; omega), flat_append, List.drop_replicate]
  have e : flat [c] = [c.r, c.g, c.b, c.a] := by simp [flat, Qc.list]
  rw [e, List.length_append]
  congr 2
theorem pixL_nil (z : Nat) : pixL [] z = List.replicate z 0 := by unfold pixL; simp [flat]
theorem pixL_all {L : List Qc} {z : Nat} (h : 4 * L.length = z) : pixL L z = flat L := by unfold pixL; rw [h, Nat.sub_self]; simp
end Go.Proofs.YthljhebbblhakaaGreatDoor
namespace Go.Proofs.YthljhebbblhakaaGreatDoor
open Go.RowKit
set_option linter.unusedVariables false
set_option linter.unusedSimpArgs false

/-- the ways of a step: a fault, or a result and the place behind it; and what it asks of the budget -/
def Ways {α : Type} (C : World → (Ending → World → Prop) → Prop) (p g : Nat) (s : ByteArray) (a : Nat) (x : Led) (D : Nat → (α → Dec) → Dec) (no : Nat → Nat → Value) (yes : α → Value) (nx : α → Nat) (good : α → Prop) : Prop :=
  (∃ (kk aa : Nat) (y : Led), kk ≠ 0 ∧ y.Ok ∧ y.bytes = x.bytes ∧ (∀ (z : Nat) k, (D z k).run x = ((y.give (z : Int)).1, .bad kk aa)) ∧
     ∀ w, SrcAt w p g s 0 s.size a → LedAt w g x → C w fun e w' => e = .returned (no kk aa) ∧ LedAt w' g y ∧ Turn [p, g] w w') ∨
  (∃ (r : α) (y : Led), good r ∧ y.Ok ∧ y.bytes = x.bytes ∧ y.reason = 0 ∧ (∀ (z : Nat) k, (D z k).run x = (k r).run y) ∧
     ∀ w, SrcAt w p g s 0 s.size a → LedAt w g x → C w fun e w' => e = .returned (yes r) ∧ SrcAt w' p g s 0 s.size (nx r) ∧ LedAt w' g y ∧ Turn [p, g] w w')
def ftV (kk aa : Nat) : Value := .agg #[.int .i64 (kk : Int), .int .i64 3, .int .i64 (aa : Int)]
def ft0 : Value := .agg #[.int .i64 0, .int .i64 0, .int .i64 0]
def tokNo (kk aa : Nat) : Value := .tuple #[.int .i64 0, .int .i64 0, ftV kk aa]
def tokYes (r : Nat × Nat × Nat) : Value := .tuple #[.int .i64 (r.1 : Int), .int .i64 (r.2.1 : Int), ft0]
section
variable {x : Led} {j : Nat}
theorem Led.used_refused (ok : x.Ok) (hx : x.reason = 0) (hj : x.steps + j = x.S) : ((x.used j).refused 3 1).Ok ∧ ((x.used j).refused 3 1).bytes = x.bytes := by
  have h := (Led.used_ok (k := j) ok (by omega)).work 1
  rw [Led.used_no hx hj] at h
  exact ⟨h, rfl⟩
end
section
variable {w : World} {p g a : Nat} {s : ByteArray} {x : Led}
/-- the steps of two stretches -/
theorem two_yes {z b n m : Nat} {k : Dec} (hx : x.reason = 0) (h : x.steps + (n + m : Nat) ≤ x.S) : (stepsD z a n (stepsD z b m k)).run x = k.run (x.used (n + m)) := by
  have h1 := stepsD_yes hx (z := z) (k := stepsD z b m k) n a 0 (by omega)
  rw [Led.used_zero] at h1
  rw [h1, stepsD_yes hx m b (0 + n) (by omega), Nat.zero_add]
theorem two_no1 {z b n m r : Nat} {k : Dec} (hx : x.reason = 0) (hs : x.steps + r = x.S) (hr : r < n) : (stepsD z a n (stepsD z b m k)).run x = ((((x.used r).refused 3 1).give (z : Int)).1, .bad 4 (a + r)) := by
  have h1 := stepsD_no hx (z := z) (k := stepsD z b m k) n a 0 r (by omega) hr
  rw [Led.used_zero, Nat.zero_add] at h1
  exact h1
theorem two_no2 {z b n m r : Nat} {k : Dec} (hx : x.reason = 0) (hs : x.steps + r = x.S) (hr : n ≤ r) (hm : r < n + m) : (stepsD z a n (stepsD z b m k)).run x = ((((x.used r).refused 3 1).give (z : Int)).1, .bad 4 (b + (r - n))) := by
  have h1 := stepsD_yes hx (z := z) (k := stepsD z b m k) n a 0 (by omega)
  rw [Led.used_zero] at h1
  rw [h1, stepsD_no hx m b (0 + n) (r - n) (by omega) (by omega), show 0 + n + (r - n) = r by omega]
theorem numC (o : SrcOk s 0 s.size a) (ok : x.Ok) (hx : x.reason = 0) :
    Ways (fun w Q => Calls Tryz.prog 71 #[.pointer (some ⟨p, 0, none⟩)] w Q) p g s a x (numD s a) tokNo tokYes (fun r => r.2.2) (fun r => numberAt (nats s) a = ⟨r.1, r.2.1, r.2.2, 0, 0⟩) := by
  have hal := o.at_
  obtain ⟨f1, f2⟩ := nFirst_le hal
  have hu : ∀ w, LedAt w g x → LedAt w g (x.used 0) := fun w hl => by rw [Led.used_zero]; exact hl
  obtain ⟨f, hf⟩ : ∃ f, nFirst (nats s) a = f := ⟨_, rfl⟩
  have hf' : f = a + overN false ((nats s).drop a) := hf.symm
  have hfs : f ≤ s.size := by omega
  have hlen := nats_len s
  obtain ⟨c, hc⟩ : ∃ c, overN false ((nats s).drop a) = c := ⟨_, rfl⟩
  have hfa : f - a = c := by omega
  have hD : ∀ z k, numD s a z k = stepsD z a (c + 1) (stepsD z f (nRest (nats s) f) (gotD z (numberAt (nats s) a) k)) := fun z k => by unfold numD; rw [hf, hc]
  obtain ⟨R, hR⟩ : ∃ R, nRest (nats s) f = R := ⟨_, rfl⟩
  have hD' : ∀ z k, numD s a z k = stepsD z a (c + 1) (stepsD z f R (gotD z (numberAt (nats s) a) k)) := fun z k => by rw [hD, hR]
  by_cases hen : x.steps + ((c + 1 + R : Nat) : Int) ≤ x.S
  · have hyok : (x.used (c + 1 + R)).Ok := Led.used_ok ok hen
    have run : ∀ z k, (numD s a z k).run x = (gotD z (numberAt (nats s) a) k).run (x.used (c + 1 + R)) := fun z k => by rw [hD']; exact two_yes hx hen
    by_cases hlt : f < s.size
    · by_cases hd : isDigit (bat s f) = true
      · have hR1 : R = digN ((nats s).drop f) + (if f + digN ((nats s).drop f) < s.size then 1 else 0) := by
          rw [← hR]; unfold nRest; rw [hlen, if_pos hlt, if_pos (show isDigit ((nats s).getD f 0) = true from hd)]
        have hN : numberAt (nats s) a = ⟨digV 0 ((nats s).drop f), f, f + digN ((nats s).drop f), 0, 0⟩ := by
          unfold numberAt
          simp only
          rw [← hf', hlen, if_neg (by omega), if_pos (show isDigit ((nats s).getD f 0) = true from hd)]
        refine .inr ⟨(digV 0 ((nats s).drop f), f, f + digN ((nats s).drop f)), _, hN, hyok, rfl, hx, fun z k => by rw [run, hN]; rfl, fun w h hl => ?_⟩
        refine (tokNumber_yes (dn := digN ((nats s).drop f)) (dt := if f + digN ((nats s).drop f) < s.size then 1 else 0) h o (hu _ hl) hx ok hf' hlt hd rfl rfl (by omega)).mono ?_
        rintro e w' ⟨rfl, s1, l1, t1⟩
        rw [show 0 + (f - a + 1 + digN ((nats s).drop f) + (if f + digN ((nats s).drop f) < s.size then 1 else 0)) = c + 1 + R by omega] at l1
        exact ⟨rfl, s1, l1, t1⟩
      · have hd' := bool_no hd
        have hR1 : R = 1 := by rw [← hR]; unfold nRest; rw [hlen, if_pos hlt, if_neg (show ¬ isDigit ((nats s).getD f 0) = true from hd)]
        have hN : numberAt (nats s) a = ⟨0, 0, 0, 2, f⟩ := by
          unfold numberAt
          simp only
          rw [← hf', hlen, if_neg (by omega), if_neg (show ¬ isDigit ((nats s).getD f 0) = true from hd)]
        refine .inl ⟨2, f, _, by decide, hyok, rfl, fun z k => by rw [run, hN]; rfl, fun w h hl => ?_⟩
        refine (tokNumber_none h o (hu _ hl) hx ok hf' (by omega) hlt hd').mono ?_
        rintro e w' ⟨rfl, s1, l1, t1⟩
        rw [show 0 + (f - a + 2) = c + 1 + R by omega] at l1
        exact ⟨rfl, l1, t1⟩
    · have hR1 : R = 1 := by rw [← hR]; unfold nRest; rw [hlen, if_neg hlt]
      have hN : numberAt (nats s) a = ⟨0, 0, 0, 1, s.size⟩ := by
        unfold numberAt
        simp only
        rw [← hf', hlen, if_pos (by omega)]
      refine .inl ⟨1, s.size, _, by decide, hyok, rfl, fun z k => by rw [run, hN]; rfl, fun w h hl => ?_⟩
      refine (tokNumber_end h o (hu _ hl) hx ok hf' (by omega) (by omega)).mono ?_
      rintro e w' ⟨rfl, s1, l1, t1⟩
      rw [show 0 + (f - a + 2) = c + 1 + R by omega] at l1
      exact ⟨rfl, l1, t1⟩
  · have ht := ok.t1
    obtain ⟨r, hr⟩ : ∃ r : Nat, x.steps + (r : Int) = x.S := ⟨(x.S - x.steps).toNat, by omega⟩
    obtain ⟨y1, y2⟩ := Led.used_refused ok hx hr
    have hrT : r < c + 1 + R := by omega
    by_cases h0 : r < c + 2
    · obtain ⟨q, q2⟩ : ∃ q, q = a + min r (f - a) := ⟨_, rfl⟩
      refine .inl ⟨4, q, _, by decide, y1, y2, fun z k => ?_, fun w h hl => (tokNumber_spent1 (r := r) h o (hu _ hl) hx ok hf' (by omega) (by omega)).mono fun e w' ⟨q', ⟨_, hq⟩, he, l1, t1⟩ => ⟨by rw [he, hq, ← q2]; rfl, by rw [Nat.zero_add] at l1; exact l1, t1⟩⟩
      rw [hD']
      by_cases h1 : r < c + 1
      · rw [two_no1 hx hr h1, q2, hfa, Nat.min_eq_left (by omega)]
      · rw [two_no2 hx hr (by omega) hrT, q2, hfa, Nat.min_eq_right (by omega), show f + (r - (c + 1)) = a + c by omega]
    · have hlt : f < s.size := by
        refine Nat.lt_of_not_le fun hge => ?_
        have : R = 1 := by rw [← hR]; unfold nRest; rw [hlen, if_neg (by omega)]
        omega
      have hd : isDigit (bat s f) = true := by
        cases hd : isDigit (bat s f) with
        | true => rfl
        | false =>
          have : R = 1 := by rw [← hR]; unfold nRest; rw [hlen, if_pos hlt, if_neg (show ¬ isDigit ((nats s).getD f 0) = true from by show ¬ isDigit (bat s f) = true; rw [hd]; decide)]
          omega
      have hR1 : R = digN ((nats s).drop f) + (if f + digN ((nats s).drop f) < s.size then 1 else 0) := by
        rw [← hR]; unfold nRest; rw [hlen, if_pos hlt, if_pos (show isDigit ((nats s).getD f 0) = true from hd)]
      obtain ⟨q, q2⟩ : ∃ q, q = f + 1 + (r - (f - a + 2)) := ⟨_, rfl⟩
      refine .inl ⟨4, q, _, by decide, y1, y2, fun z k => ?_, fun w h hl => (tokNumber_spent2 (r := r) (dn := digN ((nats s).drop f)) (dt := if f + digN ((nats s).drop f) < s.size then 1 else 0) h o (hu _ hl) hx ok hf' hlt hd rfl rfl (by omega) (by omega) (by omega)).mono fun e w' ⟨q', ⟨_, hq⟩, he, l1, t1⟩ => ⟨by rw [he, hq, ← q2]; rfl, by rw [Nat.zero_add] at l1; exact l1, t1⟩⟩
      rw [hD', two_no2 hx hr (by omega) hrT, q2, hfa, show f + (r - (c + 1)) = f + 1 + (r - (c + 2)) by omega]
theorem byteD_yes {y : Led} (h : x.work 1 = (y, true)) (ha : a + 1 ≤ s.size) (z : Nat) (k : Nat → Dec) : (byteD s a z k).run x = (k (bat s a)).run y := by
  unfold byteD
  rw [run_work_yes h, if_pos (show a < s.size from ha)]
end
end Go.Proofs.YthljhebbblhakaaGreatDoor
