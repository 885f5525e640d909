/- farbfeld: a number of bytes, the highest first; what is wrong with a head; a sample. farbfeld: what is wrong with a head. farbfeld: Sides. farbfeld: the pixels. append of whatever yields cells (a slice, a string, nil) onto a row that the call owns. Appends of rows of bytes. An image's box; what holds in a writing's loops. A decoder's run: a new ledger, a source over all of a text, the raster's image. The document's raster: New, Is. The document's raster: Flip. The document's raster: Set. The document's Be and Bad. The document's check of a farbfeld head, and Sides. The document's Sides of a farbfeld file. The document's Decode of a farbfeld file. -/
import Derived.Test.YthljhebbblhakaaGreatDoorEOpenInts
import Derived.Test.YthljhebbblhakaaGreatDoorESync
import Derived.Test.YthljhebbblhakaaGreatDoorEScaler
import Derived.Test.YthljhebbblhakaaGreatDoorEBuf
import Derived.Deep.RegionHeld3
import Derived.Test.YthljhebbblhakaaGreatDoorEPnmW
import Derived.Test.YthljhebbblhakaaGreatDoorERas
import Derived.Test.YthljhebbblhakaaGreatDoorEWords
import Derived.ArgAppend
import Derived.Lib.SlBytesConst
import Derived.Test.YthljhebbblhakaaGreatDoorEPnmBst
import Derived.Test.YthljhebbblhakaaGreatDoorEPnmHead
import Derived.Deep.RegionLaw
namespace Go.Proofs.YthljhebbblhakaaGreatDoor
open Go.RowKit
set_option linter.unusedVariables false
set_option linter.unusedSimpArgs false

end Go.Proofs.YthljhebbblhakaaGreatDoor
namespace Go.Proofs.YthljhebbblhakaaGreatDoor
open Go.RowKit
set_option linter.unusedVariables false
set_option linter.unusedSimpArgs false

end Go.Proofs.YthljhebbblhakaaGreatDoor
namespace Go.Proofs.YthljhebbblhakaaGreatDoor
open Go.RowKit
set_option linter.unusedVariables false
set_option linter.unusedSimpArgs false

end Go.Proofs.YthljhebbblhakaaGreatDoor
namespace Go.Proofs.YthljhebbblhakaaGreatDoor
open Go.RowKit
set_option linter.unusedVariables false
set_option linter.unusedSimpArgs false

/-- a raster whose first k pixels are told -/
def ffL (s : ByteArray) (z k : Nat) : List UInt8 := ffBytes s k ++ List.replicate (z - 4 * k) 0
theorem ffL_len {s : ByteArray} {z k : Nat} (h : 4 * k ≤ z) : (ffL s z k).length = z := by
  unfold ffL
  rw [List.length_append, ffBytes_len, List.length_replicate]
  omega
/-- what holds in the pixels' loop -/
structure FfP (w0 w : World) (p g r b d q c f k a : Nat) (W H z : Nat) (s : ByteArray) (x : Led) : Prop where
  S : SrcAt w p g s 0 s.size a
  L : LedAt w g x
  R : RasAt w r g b (W : Int) (H : Int) true
  B : BufAt w b g d (ffL s z k)
  C : SclA w q 65535 [d]
  Q : Blk w c 113 #[.pointer (some ⟨q, 0, none⟩)]
  F : FB w f 0 0 0
  T : Turn [p, g, d] w0 w
  nq : w0.heap.size ≤ q
  nc : w0.heap.size ≤ c
  nf : w0.heap.size ≤ f
section
variable {w0 w w' : World} {p g r b d q c f k a a' : Nat} {W H z : Nat} {s : ByteArray} {x y : Led}
theorem FfP.blk (P : FfP w0 w p g r b d q c f k a W H z s x) : ∃ cs, Blk w q 139 cs := P.C.elim (fun h => ⟨_, h⟩) fun ⟨_, _, h⟩ => ⟨_, h.blk⟩
theorem FfP.take (P : FfP w0 w p g r b d q c f k a W H z s x) (t : Turn [p, g] w w') (s' : SrcAt w' p g s 0 s.size a') (l' : LedAt w' g y) : FfP w0 w' p g r b d q c f k a' W H z s y := by
  obtain ⟨cs, hq⟩ := P.blk
  obtain ⟨S, L, R, B, C, Q, F, T, nq, nc, nf⟩ := P
  refine ⟨s', l', Blk.turn R t ?_, B.turn t ?_ ?_, C.turn t ?_ ?_, Blk.turn Q t ?_, F.turn t ?_, T.trans (t.mono (by simp)), nq, nc, nf⟩
  all_goals simp only [List.mem_cons, List.not_mem_nil, or_false, not_or]
  · exact ⟨Blk.ne_ R S (by decide), Blk.ne_ R L (by decide)⟩
  · exact ⟨Blk.ne_ B.blk S (by decide), Blk.ne_ B.blk L (by decide)⟩
  · exact ⟨Blk.ne_ B.row S (by decide), Blk.ne_ B.row L (by decide)⟩
  · exact ⟨Blk.ne_ hq S (by decide), Blk.ne_ hq L (by decide)⟩
  · rintro i (rfl | rfl)
    · exact .inr ⟨_, _, S, by decide⟩
    · exact .inr ⟨_, _, L, by decide⟩
  · exact ⟨Blk.ne_ Q S (by decide), Blk.ne_ Q L (by decide)⟩
  · exact ⟨Blk.ne_ F S (by decide), Blk.ne_ F L (by decide)⟩
theorem FfP.set (P : FfP w0 w p g r b d q c f k a W H z s x) (t : Turn [g, d] w w') (b' : BufAt w' b g d (ffL s z (k + 1))) (l' : LedAt w' g y) : FfP w0 w' p g r b d q c f (k + 1) a W H z s y := by
  obtain ⟨cs, hq⟩ := P.blk
  obtain ⟨S, L, R, B, C, Q, F, T, nq, nc, nf⟩ := P
  refine ⟨S.turn t ?_, l', Blk.turn R t ?_, b', C.turn t ?_ ?_, Blk.turn Q t ?_, F.turn t ?_, T.trans (t.mono (by simp)), nq, nc, nf⟩
  all_goals simp only [List.mem_cons, List.not_mem_nil, or_false, not_or]
  · exact ⟨Blk.ne_ S L (by decide), Blk.ne_ S B.row (by decide)⟩
  · exact ⟨Blk.ne_ R L (by decide), Blk.ne_ R B.row (by decide)⟩
  · exact ⟨Blk.ne_ hq L (by decide), Blk.ne_ hq B.row (by decide)⟩
  · rintro i (rfl | rfl)
    · exact .inr ⟨_, _, L, by decide⟩
    · exact .inl rfl
  · exact ⟨Blk.ne_ Q L (by decide), Blk.ne_ Q B.row (by decide)⟩
  · exact ⟨Blk.ne_ F L (by decide), Blk.ne_ F B.row (by decide)⟩
theorem FfP.below (P : FfP w0 w p g r b d q c f k a W H z s x) (t : Below w.heap.size w w') : FfP w0 w' p g r b d q c f k a W H z s x :=
  P.take (Turn.of_below t) (Blk.below P.S t (Blk.lt P.S)) (Blk.below P.L t (Blk.lt P.L))
end
/-- what the pixels' reading leaves -/
structure FfE (w0 w : World) (p g r b d W H z : Nat) (l : List UInt8) (y : Led) : Prop where
  L : LedAt w g y
  R : RasAt w r g b (W : Int) (H : Int) true
  B : BufAt w b g d l
  len : l.length = z
  ok : y.Ok
  y1 : (z : Int) ≤ y.bytes
  T : Turn [p, g, d] w0 w
theorem FfP.fin {w0 w : World} {p g r b d q c f k a W H z : Nat} {s : ByteArray} {x : Led} {u v e : Value} (P : FfP w0 w p g r b d q c f k a W H z s x) (hk : 4 * k ≤ z) (ok : x.Ok) (hb : (z : Int) ≤ x.bytes) : FfE w0 (st3 w f u v e) p g r b d W H z (ffL s z k) x :=
  ⟨Blk.st3 P.L (Blk.ne_ P.L P.F (by decide)), Blk.st3 P.R (Blk.ne_ P.R P.F (by decide)), ⟨Blk.st3 P.B.blk (Blk.ne_ P.B.blk P.F (by decide)), Blk.st3 P.B.row (Blk.ne_ P.B.row P.F (by decide))⟩, ffL_len hk, ok, hb, Turn.st3 P.T (.inr P.nf)⟩
end Go.Proofs.YthljhebbblhakaaGreatDoor
namespace Go.Proofs.YthljhebbblhakaaGreatDoor
open Go.RowKit
set_option linter.unusedVariables false


/-- append(v, x, y, ..): bytes laid in new cells -/
theorem wpList_append_lit {ops : Array Oper} {rest : List Oper} {o : Oper} {a : Act} {Q : Exit → Act → World → Prop} {w : World} (hgd : o.guard = none) (s x : Operand)
    (ho : o.op = .call { callee := .builtin .append, args := #[s, x], argTypes := #[22, 22] })
    (base : Nat) (v : Value) (l : List UInt8) (hs : a.eval s = v) (hown : Owns8 w base v l)
    (g n c : Nat) (hx : a.eval x = .slice (some ⟨g, 0, none⟩) n c) (bs : List UInt8) (hn : bs.length = n)
    (cells : Array Value) (hh : w.heap[g]? = some (.cells cells 5 (0, 0))) (hc : cells.toList = C8 bs)
    (hlen : l.length + n < 1099511627776) (hbase : base ≤ w.heap.size)
    (h : ∀ v' w', Owns8 w' base v' (l ++ bs) → Below base w w' → w.grownBy w' v.ownBlock → wpList Tryz.prog ops Q rest (a.put o.dst v') w') : wpList Tryz.prog ops Q (o :: rest) a w := by
  obtain ⟨i0, hi, hz0, hz1, hz2⟩ := info_parts info8
  subst hn
  refine wpList_append_own (P := Tryz.prog) w hgd s x 22 ho base 5 i0 (.int .u8 0) 1 1 Tryz.underlying22 hi hz0 hz1 hz2 rfl (by decide) v l.length (C8 l) hs hown ⟨g, 0, none⟩ bs.length c (C8 bs) hx (by simp [C8]) ?_ ?_ (by unfold maxLen; omega) (by omega) hbase ?_
  · intro j u hj
    rw [← hc] at hj
    have : w.cell? ⟨g, j, none⟩ = cells[j]? := cell_of_row w g j cells _ (0, 0) hh
    have e : (⟨g, 0, none⟩ : Addr).add j = ⟨g, j, none⟩ := by unfold Addr.add; split <;> simp_all
    rw [e, this]
    simpa using hj
  · intro u hu
    obtain ⟨b, _, rfl⟩ := List.mem_map.1 hu
    rfl
  · intro v' w' h1 h2 _
    refine h v' w' ?_ (hown.below (Below.refl _ _) (Nat.le_refl _) hbase h2) h2
    show World.ownsRow _ _ _ _ _ _ _
    have e2 : C8 (l ++ bs) = C8 l ++ C8 bs := by simp [C8]
    rw [List.length_append, e2]
    exact h1
end Go.Proofs.YthljhebbblhakaaGreatDoor
namespace Go.Proofs.YthljhebbblhakaaGreatDoor
open Go.RowKit
set_option linter.unusedVariables false
set_option linter.unusedSimpArgs false

end Go.Proofs.YthljhebbblhakaaGreatDoor
namespace Go.Proofs.YthljhebbblhakaaGreatDoor
open Go.RowKit
set_option linter.unusedVariables false
set_option linter.unusedSimpArgs false

/-- an image's box -/
def im3 (W H : Int) (a : Option Addr) (n c : Nat) : Array Value := #[.int .i64 W, .int .i64 H, .slice a n c]
def IB (w : World) (b : Nat) (W H : Int) (a : Option Addr) (n c : Nat) : Prop := Blk w b 24 (im3 W H a n c)
section
variable {w w' : World} {b : Nat} {W H W' H' : Int} {a a' : Option Addr} {n c n' c' : Nat} {S : List Nat}
theorem IB.new (w : World) (W H : Int) (a : Option Addr) (n c : Nat) : IB (w.alloc (.cells #[.int .i64 W, .int .i64 H, .slice a n c] 24)) w.heap.size W H a n c := Blk.new _ _ _
theorem IB.all (h : IB w b W H a n c) : w.cell? ⟨b, 0, none⟩ = some (.int .i64 W) ∧ w.cell? ⟨b, 1, none⟩ = some (.int .i64 H) ∧ w.cell? ⟨b, 2, none⟩ = some (.slice a n c) ∧ w.frozen? ⟨b, 0, none⟩ = false ∧ w.frozen? ⟨b, 1, none⟩ = false ∧ w.frozen? ⟨b, 2, none⟩ = false ∧ b < w.heap.size :=
  ⟨Blk.cell h 0, Blk.cell h 1, Blk.cell h 2, Blk.frozen h 0, Blk.frozen h 1, Blk.frozen h 2, Blk.lt h⟩
end
/-- what holds in Write's loops -/
structure WrI (w0 w : World) (W H n c b off : Nat) (l : List UInt8) : Prop where
  I : IB w w0.heap.size (W : Int) (H : Int) (some ⟨b, off, none⟩) n c
  C : ∀ j (hj : j < l.length), w.cell? ⟨b, off + j, none⟩ = some (.int .u8 (l[j].toNat : Int))
  B : Below w0.heap.size w0 w
theorem WrI.next {w0 w w' : World} {W H n c b off : Nat} {l : List UInt8} (h : WrI w0 w W H n c b off l) (hb : Below w.heap.size w w') : WrI w0 w' W H n c b off l :=
  ⟨Blk.below h.I hb (Blk.lt h.I), fun j hj => (hb.cell (p := ⟨b, off + j, none⟩) (World.block_lt_of_cell? w _ (h.C j hj))).trans (h.C j hj), below_next h.B hb⟩
theorem WrI.turn {S : List Nat} {w0 w w' : World} {W H n c b off : Nat} {l : List UInt8} (h : WrI w0 w W H n c b off l) (t : Turn S w w') (hS : ∀ i ∈ S, w0.heap.size < i) (hbw : b < w0.heap.size) : WrI w0 w' W H n c b off l :=
  ⟨Blk.turn h.I t (fun e => by have := hS _ e; omega), fun j hj => (t.cell (World.block_lt_of_cell? w _ (h.C j hj)) (fun e => by have := hS b e; omega) _).trans (h.C j hj), Turn.belowNext h.B t (fun i hi => by have := hS i hi; omega) h.B.size⟩
theorem WrI.drew {w0 w : World} {W H n c b off : Nat} {l : List UInt8} (h : WrI w0 w W H n c b off l) : WrI w0 w.drew W H n c b off l := ⟨h.I, h.C, h.B.drew⟩
end Go.Proofs.YthljhebbblhakaaGreatDoor
namespace Go.Proofs.YthljhebbblhakaaGreatDoor
open Go.RowKit
set_option linter.unusedVariables false
set_option linter.unusedSimpArgs false

section
variable {w w' : World} {b : Nat} {W H W' H' : Int} {a a' : Option Addr} {n c n' c' : Nat} {S : List Nat}
theorem IB.st3 (h : IB w b W H a n c) : IB (st3 w b (.int .i64 W') (.int .i64 H') (.slice a' n' c')) b W' H' a' n' c' := ((Blk.set_ (Blk.set_ (Blk.set_ h 0 _) 1 _) 2 _)).eq_ (by simp [im3])
end
theorem BytesAt.of_blk {w : World} {d : Nat} {l : List UInt8} (h : Blk w d 5 (C8 l).toArray) : BytesAt w (some ⟨d, 0, none⟩) l.length l := by
  refine ⟨rfl, .inr ⟨d, 0, rfl, fun j hj => ?_⟩⟩
  rw [Nat.zero_add, Blk.cell h j]
  simp [C8, List.getElem?_eq_getElem hj]
end Go.Proofs.YthljhebbblhakaaGreatDoor
namespace Go.Proofs.YthljhebbblhakaaGreatDoor
open Go.RowKit
set_option linter.unusedVariables false
set_option linter.unusedSimpArgs false

def refC (W H : Int) (q n c : Nat) (o : Bool) : Array Value := #[.int .i64 W, .int .i64 H, .slice (some ⟨q, 0, none⟩) n c, .bool o]
section
variable {w : World} {k q n c : Nat} {W H : Int} {o : Bool}
end
def q0 : Qc := ⟨0, 0, 0, 0⟩
end Go.Proofs.YthljhebbblhakaaGreatDoor
namespace Go.Proofs.YthljhebbblhakaaGreatDoor
open Go.RowKit
set_option linter.unusedVariables false
set_option linter.unusedSimpArgs false

end Go.Proofs.YthljhebbblhakaaGreatDoor
namespace Go.Proofs.YthljhebbblhakaaGreatDoor
open Go.RowKit
set_option linter.unusedVariables false
set_option linter.unusedSimpArgs false

theorem QAt.set {w : World} {g i : Nat} {cs : Array Value} {L : List Qc} {q : Qc} (hb : Blk w g 48 cs) (h : QAt w g 0 L) (hi : i < L.length) (hsz : i * 4 + 4 ≤ cs.size) :
    QAt ((((w.setCell ⟨g, i * 4, none⟩ (.int .u8 (q.r.toNat : Int))).setCell ⟨g, i * 4 + 1, none⟩ (.int .u8 (q.g.toNat : Int))).setCell ⟨g, i * 4 + 2, none⟩ (.int .u8 (q.b.toNat : Int))).setCell ⟨g, i * 4 + 3, none⟩ (.int .u8 (q.a.toNat : Int))) g 0 (L.set i q) := by
  have hb4 := (((hb.set_ (i * 4) (.int .u8 (q.r.toNat : Int))).set_ (i * 4 + 1) (.int .u8 (q.g.toNat : Int))).set_ (i * 4 + 2) (.int .u8 (q.b.toNat : Int))).set_ (i * 4 + 3) (.int .u8 (q.a.toNat : Int))
  intro j q' hj
  have hjl : j < L.length := by have := (List.getElem?_eq_some_iff.1 hj).1; simpa using this
  rw [Nat.zero_add]
  by_cases hji : j = i
  · subst hji
    have hq : q' = q := by
      rw [List.getElem?_set_self hjl] at hj
      exact (Option.some.inj hj).symm
    subst hq
    refine ⟨(Blk.cell hb4 _).trans ?_, (Blk.cell hb4 _).trans ?_, (Blk.cell hb4 _).trans ?_, (Blk.cell hb4 _).trans ?_⟩
    · rw [Array.getElem?_setIfInBounds_ne (by omega), Array.getElem?_setIfInBounds_ne (by omega), Array.getElem?_setIfInBounds_ne (by omega), Array.getElem?_setIfInBounds_self_of_lt (by omega)]
    · rw [Array.getElem?_setIfInBounds_ne (by omega), Array.getElem?_setIfInBounds_ne (by omega), Array.getElem?_setIfInBounds_self_of_lt (by rw [Array.size_setIfInBounds]; omega)]
    · rw [Array.getElem?_setIfInBounds_ne (by omega), Array.getElem?_setIfInBounds_self_of_lt (by simp only [Array.size_setIfInBounds]; omega)]
    · rw [Array.getElem?_setIfInBounds_self_of_lt (by simp only [Array.size_setIfInBounds]; omega)]
  · rw [List.getElem?_set_ne (Ne.symm hji)] at hj
    have hh := h j q' hj
    rw [Nat.zero_add] at hh
    have key : ∀ k, k < 4 → (((((cs.setIfInBounds (i * 4) (.int .u8 (q.r.toNat : Int))).setIfInBounds (i * 4 + 1) (.int .u8 (q.g.toNat : Int))).setIfInBounds (i * 4 + 2) (.int .u8 (q.b.toNat : Int))).setIfInBounds (i * 4 + 3) (.int .u8 (q.a.toNat : Int))))[j * 4 + k]? = cs[j * 4 + k]? := fun k hk => by
      rw [Array.getElem?_setIfInBounds_ne (by omega), Array.getElem?_setIfInBounds_ne (by omega), Array.getElem?_setIfInBounds_ne (by omega), Array.getElem?_setIfInBounds_ne (by omega)]
    refine ⟨(Blk.cell hb4 _).trans ((key 0 (by omega)).trans ((Blk.cell hb _).symm.trans hh.1)), (Blk.cell hb4 _).trans ((key 1 (by omega)).trans ((Blk.cell hb _).symm.trans hh.2.1)), (Blk.cell hb4 _).trans ((key 2 (by omega)).trans ((Blk.cell hb _).symm.trans hh.2.2.1)), (Blk.cell hb4 _).trans ((key 3 (by omega)).trans ((Blk.cell hb _).symm.trans hh.2.2.2))⟩
/-- the block of an owned row -/
theorem OwnsQ.blk {w : World} {base g n c : Nat} {L : List Qc} (h : OwnsQ w base (.slice (some ⟨g, 0, none⟩) n c) L) : base ≤ g ∧ n = L.length ∧ ∃ cs, Blk w g 48 cs ∧ L.length * 4 ≤ cs.size := by
  rcases h.2 with ⟨e, _⟩ | ⟨g', cap, cur, e, hb, hg, hc, hm, hs, ht⟩
  · cases e
  · simp only [Value.slice.injEq, Option.some.injEq, Addr.mk.injEq] at e
    obtain ⟨⟨rfl, _⟩, rfl, rfl⟩ := e
    exact ⟨hb, rfl, cur, hg, by rw [hs]; exact Nat.mul_le_mul hc (Nat.le_refl 4)⟩
theorem QAt.far {w : World} {g k i : Nat} {u : Value} {L : List Qc} (h : QAt w g 0 L) (hk : g ≠ k) : QAt (w.setCell ⟨k, i, none⟩ u) g 0 L := fun j q hj => by
  obtain ⟨h0, h1, h2, h3⟩ := h j q hj
  have e : ∀ o, (w.setCell ⟨k, i, none⟩ u).cell? ⟨g, o, none⟩ = w.cell? ⟨g, o, none⟩ := fun o => World.cell?_of_block (Below.heap_setCell w ⟨k, i, none⟩ u g hk)
  exact ⟨(e _).trans h0, (e _).trans h1, (e _).trans h2, (e _).trans h3⟩
end Go.Proofs.YthljhebbblhakaaGreatDoor
namespace Go.Proofs.YthljhebbblhakaaGreatDoor
open Go.RowKit
set_option linter.unusedVariables false
set_option linter.unusedSimpArgs false

/-- the box of a document's image -/
def ri5 (W H : Int) (v : Value) (k a : Int) : Array Value := #[.int .i64 W, .int .i64 H, v, .int .i64 k, .int .i64 a]
section
variable {w w' a : World} {b g : Nat} {W H W' H' k i k' i' : Int} {t : TypeId} {cs : Array Value} {v v' u0 u1 u2 u3 u4 : Value} {S : List Nat} {B : Nat}
end
end Go.Proofs.YthljhebbblhakaaGreatDoor
namespace Go.Proofs.YthljhebbblhakaaGreatDoor
open Go.RowKit
set_option linter.unusedVariables false
set_option linter.unusedSimpArgs false

end Go.Proofs.YthljhebbblhakaaGreatDoor
namespace Go.Proofs.YthljhebbblhakaaGreatDoor
open Go.RowKit
set_option linter.unusedVariables false
set_option linter.unusedSimpArgs false

end Go.Proofs.YthljhebbblhakaaGreatDoor
namespace Go.Proofs.YthljhebbblhakaaGreatDoor
open Go.RowKit
set_option linter.unusedVariables false
set_option linter.unusedSimpArgs false

theorem Blk.grown8 {w w' : World} {base k : Nat} {t : TypeId} {cs : Array Value} {v : Value} {l : List UInt8} (h : Blk w k t cs) (o : Owns8 w base v l) (ht : t ≠ 5) (hg : w.grownBy w' v.ownBlock) : Blk w' k t cs :=
  h.grown hg (fun e => by
    rcases o.2 with ⟨rfl, _⟩ | ⟨r, cap, cur, rfl, _, hr, _⟩
    · cases e
    · have hk : k = r := by simpa [Value.ownBlock] using e
      subst hk
      exact Blk.ne_ h hr ht rfl)
theorem OwnsQ.grown8 {w w' : World} {base base' : Nat} {v u : Value} {L : List Qc} {l : List UInt8} (h : OwnsQ w base v L) (o : Owns8 w base' u l) (hg : w.grownBy w' u.ownBlock) : OwnsQ w' base v L :=
  h.kept hg (by
    rcases h.2 with ⟨rfl, _⟩ | ⟨r, cap, cur, rfl, _, hr, _⟩
    · exact .inl rfl
    · refine .inr fun e => ?_
      rcases o.2 with ⟨rfl, _⟩ | ⟨r', cap', cur', rfl, _, hr', _⟩
      · cases e
      · have hk : r = r' := by simpa [Value.ownBlock] using e
        subst hk
        exact absurd rfl (Blk.ne_ hr hr' (by decide)))
end Go.Proofs.YthljhebbblhakaaGreatDoor
