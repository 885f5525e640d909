/- The document's raster: Image. The document's image as api has it: Plain. A pixel of an image. append of one value of one cell onto a row that the call owns. A clone of an image. A pixel of an image, where there is one. A pixel of an image, the document's. awake of chapter 7. A pixel, in whole numbers; what the law keeps. strings.HasPrefix. HasPrefix; Wide. farbfeld: what a run by a wide budget tells; the document's Decode whole; heads; awake. farbfeld: awake; heads. The law FfDecodes. Arguments opened: slices of structs of one-cell fields; colours. farbfeld: a run by any budget. Arguments opened: a budget; a slice of the ledger's calls. The law FfBudgets: words. -/
import Derived.Test.YtgmgcfjllijhgaaGreatSq
import Derived.Test.YtgmgcfjllijhgaaGreatVRasBytes
import Derived.Test.YtgmgcfjllijhgaaGreatVRas
import Derived.Lib.ConvBytes
import Derived.Test.YtgmgcfjllijhgaaGreatVFfRef3
import Derived.Test.YtgmgcfjllijhgaaGreatVWords
import Derived.Deep.OwnRows
import Derived.Lib.SliceRun
import Derived.BigRegion
import Derived.Deep.RegionHeld3
import Derived.Test.YtgmgcfjllijhgaaGreatVRasRef
import Derived.Test.YtgmgcfjllijhgaaGreatVRasWays
import Derived.Test.YtgmgcfjllijhgaaGreatProg
import Derived.ProofKit
import Derived.OpenShut
import Derived.Deep.Slices
import Derived.Deep.Fields
import Derived.ChangeSame
import Derived.Lib.SmallJoins
namespace Go.Proofs.YtgmgcfjllijhgaaGreat
open Go.RowKit
set_option linter.unusedVariables false
set_option linter.unusedSimpArgs false

/-- []byte(a text): one operation -/
theorem oper_convert_text {o : Oper} {a : Act} {w : World} {K : Act → World → Prop} {Q : Exit → Act → World → Prop}
  (x : Operand) (ho : o.op = .convert 9 30 x) (l : List UInt8) (hx : a.eval x = .string (strOf l))
  (h : ∀ c w', BytesAt w' (some ⟨w.heap.size, 0, none⟩) l.length l → Below w.heap.size w w' → K (a.put o.dst (.slice (some ⟨w.heap.size, 0, none⟩) l.length c)) w') : Oper.wp Tryz.prog o a w K Q := by
 have hr := Go.Lib.run_convert_string_bytes (P := Tryz.prog) w 9 30 5 (strOf l) Tryz.underlying9 Tryz.underlying30 Tryz.underlying5
 have hz : (strOf l).size = l.length := by rw [size_list', strOf_data]
 unfold Oper.wp
 simp only [execOp, ho, hx, Sem.run_bind, Sem.run_pure, Result.andThen_ok, hr]
 rw [hz]
 refine h _ _ ⟨rfl, .inr ⟨_, _, rfl, fun j hj => ?_⟩⟩ ⟨rfl, rfl, rfl, by rw [Go.Lib.bytesWorld_size]; omega, fun k hk => Go.Lib.bytesWorld_at_old _ _ _ k hk⟩
 rw [Nat.zero_add, Go.Lib.bytesWorld_cell _ _ _ j (by rw [hz]; exact hj), strOf_data, List.getD_eq_getElem?_getD, List.getElem?_eq_getElem hj]
 rfl
theorem BytesAt.far {w : World} {b off n k i : Nat} {u : Value} {l : List UInt8} (h : BytesAt w (some ⟨b, off, none⟩) n l) (hk : b ≠ k) : BytesAt (w.setCell ⟨k, i, none⟩ u) (some ⟨b, off, none⟩) n l := by
 obtain ⟨h1, h0 | ⟨b', off', e, hc⟩⟩ := h
 ·exact ⟨h1, .inl h0⟩
 ·simp only [Option.some.injEq, Addr.mk.injEq] at e
  obtain ⟨rfl, rfl, _⟩ := e
  exact ⟨h1, .inr ⟨b, off, rfl, fun j hj => (World.cell?_of_block (Below.heap_setCell w ⟨k, i, none⟩ u b hk)).trans (hc j hj)⟩⟩
end Go.Proofs.YtgmgcfjllijhgaaGreat
namespace Go.Proofs.YtgmgcfjllijhgaaGreat
open Go.RowKit
set_option linter.unusedVariables false
set_option linter.unusedSimpArgs false

set_option maxRecDepth 100000 in
set_option maxHeartbeats 4000000 in
theorem refPlain {w : World} {W H fk fa : Int} {q n c : Nat} {L : List Qc} (hn : n = L.length) (hc : n ≤ c) (hb : n ≤ 268435456) (h : QAt w q 0 L) :
  Calls Tryz.prog 13 #[.agg #[.int .i64 W, .int .i64 H, .slice (some ⟨q, 0, none⟩) n c, .int .i64 fk, .int .i64 fa]] w fun e w' => ∃ d c', e = .returned (.agg #[.int .i64 W, .int .i64 H, .slice (some ⟨d, 0, none⟩) (4 * n) c']) ∧ BytesAt w' (some ⟨d, 0, none⟩) (4 * n) (flat L) ∧ Below w.heap.size w w' := by
 obtain ⟨wA, hwA⟩ : ∃ wA, wA = ((w.alloc (.cells #[.int .i64 W, .int .i64 H, .slice (some ⟨q, 0, none⟩) n c, .int .i64 fk, .int .i64 fa] 28)).alloc (.cells #[.int .i64 0, .int .i64 0, .slice none 0 0] 32)) := ⟨_, rfl⟩
 have HI : Hid (RI wA w.heap.size W H (.slice (some ⟨q, 0, none⟩) n c) fk fa ∧ Blk wA (w.heap.size + 1) 32 #[.int .i64 0, .int .i64 0, .slice none 0 0] ∧ Below w.heap.size w wA) := Lib.hid (by
  subst hwA
  exact ⟨(Blk.new _ _ _).alloc _, Blk.new_at _ _ _ (by simp), ((Below.refl _ _).alloc (Nat.le_refl _) _).alloc (by simp) _⟩)
 have HBY := Lib.hid (refBytes7 (w := wA.drew) hn hc hb (show QAt wA.drew q 0 L from QAt.below' (w' := wA) h HI.out.2.2))
 have HN := Lib.hid hn
 clear hn h
 go_enter Tryz.func13, Tryz.ntmps13
 go_wp2_with fail
 change Code.wp _ _ _ _ ((w.alloc (.cells #[.int .i64 W, .int .i64 H, .slice (some ⟨q, 0, none⟩) n c, .int .i64 fk, .int .i64 fa] 28)).alloc (.cells #[.int .i64 0, .int .i64 0, .slice none 0 0] 32))
 rw [← hwA]
 clear hwA
 have c0 := HI.out.1.all.1
 have c1 := HI.out.1.all.2.1
 have c2 := HI.out.1.all.2.2.1
 have zA := HI.out.2.2.size
 refine wp_region_held_drew (S := (fun w' => w'.cell? ⟨w.heap.size, 0, none⟩ = some (.int .i64 W) ∧ w'.cell? ⟨w.heap.size, 1, none⟩ = some (.int .i64 H) ∧ w'.cell? ⟨w.heap.size, 2, none⟩ = some (.slice (some ⟨q, 0, none⟩) n c))) (by kernel_rfl) ⟨c0, c1, c2⟩ (fun hHeld => ?_)
 refine tk 0 ?_
 (try simp only [sps])
 refine tk 1 ?_
 (try simp only [sps])
 refine tk 2 ?_
 (try simp only [sps])
 refine tk 3 ?_
 (try simp only [sps])
 refine tk 4 ?_
 (try simp only [sps])
 refine tk 5 ?_
 (try simp only [sps])
 refine rdy 6 (fun K hK => ?_)
 go_simp
 refine HBY.out.mono ?_
 rintro e w2 ⟨rfl, b2⟩
 have R2 : RI w2 w.heap.size W H (.slice (some ⟨q, 0, none⟩) n c) fk fa := Blk.below (Blk.drew HI.out.1) b2 (Blk.lt HI.out.1)
 have B2 := HI.out.2.2.drew.trans (b2.mono zA)
 refine hK.out _ _ ⟨R2.all.1, R2.all.2.1, R2.all.2.2.1⟩ (fun hHeld' => ?_)
 clear hK K hHeld
 (try simp only [sps])
 refine rdy 7 (fun K hK => ?_)
 refine oper_convert_text (.tmp 9) rfl (flat L) rfl ?_
 intro c5 w5 own5 b5
 rw [flat_len, ← HN.out] at own5 ⊢
 have B5 := B2.trans (b5.mono (by have := B2.size; omega))
 have R5 : RI w5 w.heap.size W H (.slice (some ⟨q, 0, none⟩) n c) fk fa := Blk.below R2 b5 (Blk.lt R2)
 have Z2 : Blk w2 (w.heap.size + 1) 32 #[.int .i64 0, .int .i64 0, .slice none 0 0] := Blk.below (Blk.drew HI.out.2.1) b2 HI.out.2.1.lt
 have zne : w2.heap.size ≠ w.heap.size + 1 := by have := Z2.lt; omega
 have Z5 : Blk w5 (w.heap.size + 1) 32 #[.int .i64 0, .int .i64 0, .slice none 0 0] := Blk.below Z2 b5 Z2.lt
 refine hK.out _ _ ⟨R5.all.1, R5.all.2.1, R5.all.2.2.1⟩ (fun hHeld => ?_)
 clear hK K hHeld'
 (try simp only [sps])
 refine tk 8 ?_
 (try simp only [sps])
 have y0 := Blk.cell Z5 0
 have y1 := Blk.cell Z5 1
 have y2 := Blk.cell Z5 2
 have yz0 := Blk.frozen Z5 0
 have yz1 := Blk.frozen Z5 1
 have yz2 := Blk.frozen Z5 2
 refine rdy 9 (fun K hK => ?_)
 go_simp
 have Q9 : BytesAt (((w5.setCell ⟨w.heap.size + 1, 0, none⟩ (.int .i64 W)).setCell ⟨w.heap.size + 1, 1, none⟩ (.int .i64 H)).setCell ⟨w.heap.size + 1, 2, none⟩ (.slice (some ⟨w2.heap.size, 0, none⟩) (4 * n) c5)) (some ⟨w2.heap.size, 0, none⟩) (4 * n) (flat L) := ((own5.far zne).far zne).far zne
 have P9 : RI (((w5.setCell ⟨w.heap.size + 1, 0, none⟩ (.int .i64 W)).setCell ⟨w.heap.size + 1, 1, none⟩ (.int .i64 H)).setCell ⟨w.heap.size + 1, 2, none⟩ (.slice (some ⟨w2.heap.size, 0, none⟩) (4 * n) c5)) w.heap.size W H (.slice (some ⟨q, 0, none⟩) n c) fk fa := Blk.far (Blk.far (Blk.far R5 (by simp) _) (by simp) _) (by simp) _
 have R9 : Blk (((w5.setCell ⟨w.heap.size + 1, 0, none⟩ (.int .i64 W)).setCell ⟨w.heap.size + 1, 1, none⟩ (.int .i64 H)).setCell ⟨w.heap.size + 1, 2, none⟩ (.slice (some ⟨w2.heap.size, 0, none⟩) (4 * n) c5)) (w.heap.size + 1) 32 #[.int .i64 W, .int .i64 H, .slice (some ⟨w2.heap.size, 0, none⟩) (4 * n) c5] := ((Z5.set_ 0 _).set_ 1 _).set_ 2 _
 have B9 : Below w.heap.size w (((w5.setCell ⟨w.heap.size + 1, 0, none⟩ (.int .i64 W)).setCell ⟨w.heap.size + 1, 1, none⟩ (.int .i64 H)).setCell ⟨w.heap.size + 1, 2, none⟩ (.slice (some ⟨w2.heap.size, 0, none⟩) (4 * n) c5)) := below_set (below_set (below_set B5 (by omega)) (by omega)) (by omega)
 refine hK.out _ _ ⟨P9.all.1, P9.all.2.1, P9.all.2.2.1⟩ (fun hHeld' => ?_)
 clear hK K hHeld y0 y1 y2 yz0 yz1 yz2
 refine wpAnyH_done (by kernel_rfl) ?_ _
 clear hHeld'
 change Exit.then _ _ _ _ (((w5.setCell ⟨w.heap.size + 1, 0, none⟩ (.int .i64 W)).setCell ⟨w.heap.size + 1, 1, none⟩ (.int .i64 H)).setCell ⟨w.heap.size + 1, 2, none⟩ (.slice (some ⟨w2.heap.size, 0, none⟩) (4 * n) c5))
 generalize (((w5.setCell ⟨w.heap.size + 1, 0, none⟩ (.int .i64 W)).setCell ⟨w.heap.size + 1, 1, none⟩ (.int .i64 H)).setCell ⟨w.heap.size + 1, 2, none⟩ (.slice (some ⟨w2.heap.size, 0, none⟩) (4 * n) c5)) = we at Q9 R9 B9 ⊢
 have r0 := Blk.cell R9 0
 have r1 := Blk.cell R9 1
 have r2 := Blk.cell R9 2
 go_wp2_with fail
 exact bodyPost_ret (v := .agg #[.int .i64 W, .int .i64 H, .slice (some ⟨w2.heap.size, 0, none⟩) (4 * n) c5]) (by simp [results, Tryz.results13, go_sem, r0, r1, r2]) rfl ⟨_, _, rfl, Q9, B9⟩
end Go.Proofs.YtgmgcfjllijhgaaGreat
namespace Go.Proofs.YtgmgcfjllijhgaaGreat
open Go.RowKit
set_option linter.unusedVariables false
set_option linter.unusedSimpArgs false

end Go.Proofs.YtgmgcfjllijhgaaGreat
namespace Go.Proofs.YtgmgcfjllijhgaaGreat
open Go.RowKit
set_option linter.unusedVariables false

/-- the slice value v owns the values l, in a block from base on -/
def Owns1 (w : World) (base : Nat) (e : TypeId) (v : Value) (l : List Value) : Prop := w.ownsRow base e 1 v l.length l

section
variable {w w' : World} {base : Nat} {e : TypeId} {v : Value} {l : List Value}
theorem Owns1.nil (w : World) (base : Nat) (e : TypeId) : Owns1 w base e (.slice none 0 0) [] := World.ownsRow_nil _ _ _ _
theorem Owns1.alloc (h : Owns1 w base e v l) (o : Obj) : Owns1 (w.alloc o) base e v l := World.ownsRow.alloc h o
theorem Owns1.drew (h : Owns1 w base e v l) : Owns1 w.drew base e v l := h
theorem Owns1.drewN (h : Owns1 w base e v l) (n : Nat) : Owns1 (w.drewN n) base e v l := h
theorem Owns1.kept {row : Option Nat} (h : Owns1 w base e v l) (hg : w.grownBy w' row) (hne : v.ownBlock = none ∨ v.ownBlock ≠ row) : Owns1 w' base e v l := World.ownsRow.kept h hg hne
theorem Owns1.below (h : Owns1 w base e v l) {a : World} {B : Nat} (hb : Below B a w) (hB : B ≤ base) (hw : base ≤ w.heap.size) (hg : w.grownBy w' v.ownBlock) : Below B a w' :=
 hb.grown hg (Nat.le_trans hB hw) fun k hk => Nat.le_trans hB (World.ownsRow.lt h k hk).1
theorem Owns1.stays {B : Nat} (h : Owns1 w base e v l) (hb : Below B w w') (hB : w.heap.size ≤ B) : Owns1 w' base e v l :=
 h.kept (row := none) ⟨hb.os, hb.tape, hb.output, hb.size, fun i hi _ => hb.block i (by omega)⟩ (by cases v.ownBlock <;> simp)
/-- the slice's cells -/
theorem Owns1.form (h : Owns1 w base e v l) : (v = .slice none 0 0 ∧ l = []) ∨ ∃ g cap, v = .slice (some ⟨g, 0, none⟩) l.length cap ∧ base ≤ g ∧ g < w.heap.size ∧ l.length ≤ cap ∧ cap ≤ maxLen ∧ ∀ j, j < l.length → w.cell? ⟨g, j, none⟩ = l[j]? := by
 rcases h.2 with ⟨rfl, hn⟩ | ⟨g, cap, cur, rfl, hb, hg, hc, hm, hs, ht⟩
 ·exact .inl ⟨rfl, List.eq_nil_of_length_eq_zero hn⟩
 ·refine .inr ⟨g, cap, rfl, hb, (World.ownsRow.lt h g rfl).2, hc, hm, fun j hj => ?_⟩
  rw [cell_of_row w g j cur e (0, 0) hg, ← Array.getElem?_toList]
  have : l[j]? = (cur.toList.take (l.length * 1))[j]? := by rw [ht]
  rw [this, List.getElem?_take_of_lt (by omega)]
end

/-- append of one value, laid in a new cell -/
theorem wpList_append_one {ops : Array Oper} {rest : List Oper} {o : Oper} {a : Act} {Q : Exit → Act → World → Prop} {w : World} (hgd : o.guard = none) (s x : Operand) (t e : TypeId)
  (ho : o.op = .call { callee := .builtin .append, args := #[s, x], argTypes := #[t, t] })
  (z : Value) (nb : Nat) (ht : Tryz.prog.underlying t = some (.slice e)) (hinfo : (Tryz.prog.info? e).map (fun i => (i.zero, i.size, i.bytes)) = some (some z, 1, nb)) (hz1 : z.cells.size = 1) (hnb : nb ≤ 16)
  (base : Nat) (v : Value) (l : List Value) (hs : a.eval s = v) (hown : Owns1 w base e v l)
  (g : Addr) (hx : a.eval x = .slice (some g) 1 1) (u : Value) (hc : w.cell? g = some u) (hu : u.oneCell' = true)
  (hlen : l.length < 1099511627776) (hbase : base ≤ w.heap.size)
  (h : ∀ v' w', Owns1 w' base e v' (l ++ [u]) → Below base w w' → w.grownBy w' v.ownBlock → wpList Tryz.prog ops Q rest (a.put o.dst v') w') : wpList Tryz.prog ops Q (o :: rest) a w := by
 obtain ⟨i0, hi, hz0, hzs, hzb⟩ := info_parts hinfo
 refine wpList_append_own (P := Tryz.prog) w hgd s x t ho base e i0 z 1 nb ht hi hz0 hzs hzb hz1 (by decide) v l.length l hs hown g 1 1 [u] hx rfl ?_ ?_ (by unfold maxLen; omega) ?_ hbase ?_
 ·intro j u' hj
  cases j with
  | zero => simp at hj; subst hj; simpa [Addr.add] using hc
  | succ j => simp at hj
 ·intro u' hu'; simp at hu'; subst hu'; exact hu
 ·have : (l.length + 1) * nb ≤ 1099511627776 * 16 := Nat.mul_le_mul (by omega) hnb
  omega
 ·intro v' w' h1 h2 _
  refine h v' w' ?_ (hown.below (Below.refl _ _) (Nat.le_refl _) hbase h2) h2
  show World.ownsRow _ _ _ _ _ _ _
  simpa using h1
end Go.Proofs.YtgmgcfjllijhgaaGreat
namespace Go.Proofs.YtgmgcfjllijhgaaGreat
open Go.RowKit
set_option linter.unusedVariables false
set_option linter.unusedSimpArgs false

theorem BytesAt.set {w : World} {a : Option Addr} {n : Nat} {l : List UInt8} (h : BytesAt w a n l) (k i : Nat) (u : Value) (hk : ∀ b off, a = some ⟨b, off, none⟩ → b ≠ k) : BytesAt (w.setCell ⟨k, i, none⟩ u) a n l := by
 obtain ⟨h1, h0 | ⟨b, off, rfl, hc⟩⟩ := h
 ·exact ⟨h1, .inl h0⟩
 ·exact ⟨h1, .inr ⟨b, off, rfl, fun j hj => (World.cell?_of_block (Below.heap_setCell w ⟨k, i, none⟩ u b (hk b off rfl))).trans (hc j hj)⟩⟩
end Go.Proofs.YtgmgcfjllijhgaaGreat
namespace Go.Proofs.YtgmgcfjllijhgaaGreat
open Go.RowKit
set_option linter.unusedVariables false
set_option linter.unusedSimpArgs false

end Go.Proofs.YtgmgcfjllijhgaaGreat
namespace Go.Proofs.YtgmgcfjllijhgaaGreat
open Go.RowKit
set_option linter.unusedVariables false
set_option linter.unusedSimpArgs false

end Go.Proofs.YtgmgcfjllijhgaaGreat
namespace Go.Proofs.YtgmgcfjllijhgaaGreat
open Go.RowKit
set_option linter.unusedVariables false
set_option linter.unusedSimpArgs false

def W7 : Led := ⟨2, 1, 8, 9, 0, 0, 0, 0, 0⟩
def W7b : Led := ⟨2, 1, 8, 9, 8, 8, 0, 0, 0⟩
def W7c : Led := ⟨2, 1, 8, 9, 8, 8, 1, 0, 0⟩
theorem W7.ok : W7.Ok := by constructor <;> decide
theorem W7b.ok : W7b.Ok := by constructor <;> decide
theorem W7c.ok : W7c.Ok := by constructor <;> decide
def red : List UInt8 := [255, 0, 0, 255]
def L7 : List UInt8 := over (List.replicate 8 0) 0 red
end Go.Proofs.YtgmgcfjllijhgaaGreat
namespace Go.Proofs.YtgmgcfjllijhgaaGreat
open Go.RowKit
set_option linter.unusedVariables false
set_option linter.unusedSimpArgs false

/-- two images in their boxes, and their bytes; a colour in its own -/
structure IC (w0 : World) (g k : Nat) (aW aH : Int) (aa : Option Addr) (an ac : Nat) (al : List UInt8) (bW bH : Int) (ba : Option Addr) (bn bc : Nat) (bl : List UInt8) (p0 p1 p2 p3 : Int) (w : World) : Prop where
 A : Blk w g 32 #[.int .i64 aW, .int .i64 aH, .slice aa an ac]
 B : Blk w (g + 1) 32 #[.int .i64 bW, .int .i64 bH, .slice ba bn bc]
 C : CB w k p0 p1 p2 p3
 a0_ : BytesAt w0 aa an al
 b0_ : BytesAt w0 ba bn bl
 below : Below w0.heap.size w0 w
section
variable {w0 w w' : World} {g k : Nat} {aW aH bW bH : Int} {aa ba : Option Addr} {an ac bn bc : Nat} {al bl : List UInt8} {p0 p1 p2 p3 : Int}
theorem IC.next (h : IC w0 g k aW aH aa an ac al bW bH ba bn bc bl p0 p1 p2 p3 w) (hb : Below w.heap.size w w') : IC w0 g k aW aH aa an ac al bW bH ba bn bc bl p0 p1 p2 p3 w' :=
 ⟨Blk.below h.A hb (Blk.lt h.A), Blk.below h.B hb (Blk.lt h.B), Blk.below h.C hb (Blk.lt h.C), h.a0_, h.b0_, below_next h.below hb⟩
theorem IC.drew (h : IC w0 g k aW aH aa an ac al bW bH ba bn bc bl p0 p1 p2 p3 w) : IC w0 g k aW aH aa an ac al bW bH ba bn bc bl p0 p1 p2 p3 w.drew := h.next (Below.refl _ _).drew
theorem IC.a (h : IC w0 g k aW aH aa an ac al bW bH ba bn bc bl p0 p1 p2 p3 w) : BytesAt w aa an al := h.a0_.below h.below
theorem IC.b (h : IC w0 g k aW aH aa an ac al bW bH ba bn bc bl p0 p1 p2 p3 w) : BytesAt w ba bn bl := h.b0_.below h.below
theorem IC.all (h : IC w0 g k aW aH aa an ac al bW bH ba bn bc bl p0 p1 p2 p3 w) :
  w.cell? ⟨g, 0, none⟩ = some (.int .i64 aW) ∧ w.cell? ⟨g, 1, none⟩ = some (.int .i64 aH) ∧ w.cell? ⟨g, 2, none⟩ = some (.slice aa an ac)
  ∧ w.cell? ⟨g + 1, 0, none⟩ = some (.int .i64 bW) ∧ w.cell? ⟨g + 1, 1, none⟩ = some (.int .i64 bH) ∧ w.cell? ⟨g + 1, 2, none⟩ = some (.slice ba bn bc)
  ∧ w.cell? ⟨k, 0, none⟩ = some (.int .u8 p0) ∧ w.cell? ⟨k, 1, none⟩ = some (.int .u8 p1) ∧ w.cell? ⟨k, 2, none⟩ = some (.int .u8 p2) ∧ w.cell? ⟨k, 3, none⟩ = some (.int .u8 p3)
  ∧ IC w0 g k aW aH aa an ac al bW bH ba bn bc bl p0 p1 p2 p3 w :=
 ⟨Blk.cell h.A 0, Blk.cell h.A 1, Blk.cell h.A 2, Blk.cell h.B 0, Blk.cell h.B 1, Blk.cell h.B 2, Blk.cell h.C 0, Blk.cell h.C 1, Blk.cell h.C 2, Blk.cell h.C 3, h⟩
end
theorem same_bool {W H W2 H2 : Int} {l m : List UInt8} {b : Bool} (hb : decide (SameP W H W2 H2 l m) = b) {w : World} {a a' : Option Addr} {n n' c c' : Nat} (h1 : BytesAt w a n l) (h2 : BytesAt w a' n' m) :
  Calls Tryz.prog 27 #[.agg #[.int .i64 W, .int .i64 H, .slice a n c], .agg #[.int .i64 W2, .int .i64 H2, .slice a' n' c']] w fun e w' => e = .returned (.bool b) ∧ Below w.heap.size w w' := by
 subst hb; exact same_any h1 h2
theorem refSame_bool {W H W2 H2 : Int} {l m : List UInt8} {b : Bool} (hb : decide (SameP W H W2 H2 l m) = b) {w : World} {a a' : Option Addr} {n n' c c' : Nat} (h1 : BytesAt w a n l) (h2 : BytesAt w a' n' m) :
  Calls Tryz.prog 12 #[.agg #[.int .i64 W, .int .i64 H, .slice a n c], .agg #[.int .i64 W2, .int .i64 H2, .slice a' n' c']] w fun e w' => e = .returned (.bool b) ∧ Below w.heap.size w w' := by
 subst hb; exact refSame7_any h1 h2
theorem same_self (W H : Int) (l : List UInt8) : decide (SameP W H W H l l) = true := by simp [SameP]
end Go.Proofs.YtgmgcfjllijhgaaGreat
namespace Go.Proofs.YtgmgcfjllijhgaaGreat
open Go.RowKit
set_option linter.unusedVariables false
set_option linter.unusedSimpArgs false

end Go.Proofs.YtgmgcfjllijhgaaGreat
namespace Go.Proofs.YtgmgcfjllijhgaaGreat
open Go.RowKit
set_option linter.unusedVariables false
set_option linter.unusedSimpArgs false

theorem wide15 (w : World) : Calls Tryz.prog 22 #[] w fun e w' => e = .returned (.agg #[.int .i64 16384, .int .i64 16384, .int .i64 262144, .int .i64 1048576]) ∧ Below w.heap.size w w' := by
 go_enter Tryz.func22, Tryz.ntmps22
 go_wp2_with fail
 exact bodyPost_ret (v := .agg #[.int .i64 16384, .int .i64 16384, .int .i64 262144, .int .i64 1048576]) (by simp [results, Tryz.results22, go_sem]) rfl ⟨rfl, (Below.refl _ _).alloc (Nat.le_refl _) _⟩
end Go.Proofs.YtgmgcfjllijhgaaGreat
namespace Go.Proofs.YtgmgcfjllijhgaaGreat
open Go.RowKit
set_option linter.unusedVariables false
set_option linter.unusedSimpArgs false

/-- the wide budget -/
def XW : Led := ⟨16384, 16384, 262144, 1048576, 0, 0, 0, 0, 0⟩
theorem XW_new : Led.new 16384 16384 262144 1048576 = XW := rfl
theorem XW_ok : XW.Ok := by constructor <;> decide
theorem DRes.bad_inj {k a k' a' : Nat} (h : DRes.bad k a = .bad k' a') : k = k' ∧ a = a' := by injection h; exact ⟨by assumption, by assumption⟩
theorem told_ne {e : Nat} (d : Dec) : ∀ (b : Nat) {k a : Nat}, d.bal e b → d.told = .bad k a → k ≠ 4 ∧ a ≤ e := by
 induction d with
 | fin r =>
  intro b k a hb h
  unfold Dec.told at h
  subst h
  exact hb.2
 | work n fr a k ih => intro b k a hb h; exact ih _ hb.2.2 h
 | sides W H a k ih => intro b k a hb h; exact ih _ hb.2.2 h
 | take n a k ih => intro b k a hb h; exact ih _ hb.2.2 h
 | give n k ih => intro b k a hb h; exact ih _ hb.2 h
 | hold n fr a k ih => intro b k a hb h; exact ih _ hb.2.2 h
theorem told_img {e : Nat} (d : Dec) : ∀ (b : Nat) {W H : Nat} {l : List UInt8}, d.bal e b → d.told = .img W H l → l.length = 4 * (W * H) := by
 induction d with
 | fin r =>
  intro b W H l hb h
  unfold Dec.told at h
  subst h
  exact hb.2
 | work n fr a k ih => intro b W H l hb h; exact ih _ hb.2.2 h
 | sides W H a k ih => intro b W H l hb h; exact ih _ hb.2.2 h
 | take n a k ih => intro b W H l hb h; exact ih _ hb.2.2 h
 | give n k ih => intro b W H l hb h; exact ih _ hb.2 h
 | hold n fr a k ih => intro b W H l hb h; exact ih _ hb.2.2 h
/-- by the wide budget all is told -/
theorem wide_run {d : Dec} {e : Nat} (hb : d.bal e 0) (hm : d.may 262144 16384 16384) (hc : d.cost ≤ 1000000) : ∃ y, d.run XW = (y, d.told) ∧ y.reason = 0 ∧ y.bytes = (d.told.kept : Int) := by
 have h1 := Dec.run_enough d XW e 0 rfl hb rfl hm (by show (0 : Int) + _ ≤ 1048576; omega)
 rcases Dec.run_cases e d 0 XW hb rfl rfl with ⟨a, _, h3, h4, _⟩ | ⟨h3, h4, h5⟩
 ·exact absurd h1.2 h4
 ·exact ⟨(d.run XW).1, Prod.ext rfl h3, h4, h5⟩
end Go.Proofs.YtgmgcfjllijhgaaGreat
namespace Go.Proofs.YtgmgcfjllijhgaaGreat
open Go.RowKit
set_option linter.unusedVariables false
set_option linter.unusedSimpArgs false

end Go.Proofs.YtgmgcfjllijhgaaGreat
namespace Go.Proofs.YtgmgcfjllijhgaaGreat
open Go.RowKit
set_option linter.unusedVariables false
set_option linter.unusedSimpArgs false

end Go.Proofs.YtgmgcfjllijhgaaGreat
namespace Go.Proofs.YtgmgcfjllijhgaaGreat
open Go.ChangeShapes Go.WideShapes Go.Deep Go.RowKit Go.Joins
set_option linter.unusedVariables false

section
variable {H : Type} {enc : TypeId × Value → H} {P : Program} {w : World} {base : Nat} {spare : Nat → Bool} {held : Bool}

end
end Go.Proofs.YtgmgcfjllijhgaaGreat
namespace Go.Proofs.YtgmgcfjllijhgaaGreat
open Go.RowKit
set_option linter.unusedVariables false
set_option linter.unusedSimpArgs false

theorem led_fix_work (x : Led) (n : Int) : (x.work n).1.B = x.B ∧ (x.work n).1.S = x.S := by unfold Led.work; split <;> first | exact ⟨rfl, rfl⟩ | (split <;> exact ⟨rfl, rfl⟩)
theorem led_fix_take (x : Led) (n : Int) : (x.take n).1.B = x.B ∧ (x.take n).1.S = x.S := by unfold Led.take; split <;> first | exact ⟨rfl, rfl⟩ | (split <;> exact ⟨rfl, rfl⟩)
theorem led_fix_give (x : Led) (n : Int) : (x.give n).1.B = x.B ∧ (x.give n).1.S = x.S := by unfold Led.give; split <;> exact ⟨rfl, rfl⟩
theorem led_fix_sides (x : Led) (a b : Int) : (x.sides a b).1.B = x.B ∧ (x.sides a b).1.S = x.S := by
 unfold Led.sides
 split
 ·exact ⟨rfl, rfl⟩
 ·split
  ·exact ⟨rfl, rfl⟩
  ·split <;> exact ⟨rfl, rfl⟩
theorem Dec.run_fix (d : Dec) : ∀ x : Led, (d.run x).1.B = x.B ∧ (d.run x).1.S = x.S := by
 induction d with
 | fin r => intro x; exact ⟨rfl, rfl⟩
 | work n fr a k ih =>
  intro x
  have h := led_fix_work x n
  unfold Dec.run
  split
  ·have := ih (x.work n).1; exact ⟨this.1.trans h.1, this.2.trans h.2⟩
  ·have := led_fix_give (x.work n).1 (fr : Int); exact ⟨this.1.trans h.1, this.2.trans h.2⟩
 | sides W H a k ih =>
  intro x
  have h := led_fix_sides x W H
  unfold Dec.run
  split
  ·have := ih (x.sides W H).1; exact ⟨this.1.trans h.1, this.2.trans h.2⟩
  ·exact h
 | take n a k ih =>
  intro x
  have h := led_fix_take x n
  unfold Dec.run
  split
  ·have := ih (x.take n).1; exact ⟨this.1.trans h.1, this.2.trans h.2⟩
  ·exact h
 | give n k ih =>
  intro x
  have h := led_fix_give x n
  unfold Dec.run
  have := ih (x.give n).1
  exact ⟨this.1.trans h.1, this.2.trans h.2⟩
 | hold n fr a k ih =>
  intro x
  have h := led_fix_take x n
  unfold Dec.run
  split
  ·have := ih (x.take n).1; exact ⟨this.1.trans h.1, this.2.trans h.2⟩
  ·have := led_fix_give (x.take n).1 (fr : Int); exact ⟨this.1.trans h.1, this.2.trans h.2⟩
/-- what a run by any budget leaves -/
inductive AnyRun (fm : Int) (d : Dec) (e : Nat) (w w' : World) (g : Nat) (y : Led) (en : Ending) : Prop where
 | spent (a : Nat) (h : a ≤ e) (r : y.reason ≠ 0) (b : y.bytes = 0) (k : en = .returned (.tuple #[.agg #[.int .i64 0, .int .i64 0, .slice none 0 0], .agg #[.int .i64 4, .int .i64 fm, .int .i64 (a : Int)], .pointer (some ⟨g, 0, none⟩)])) : AnyRun fm d e w w' g y en
 | bad (k a : Nat) (h0 : k ≠ 0) (h4 : k ≠ 4) (t : d.told = .bad k a) (u : en = .returned (.tuple #[.agg #[.int .i64 0, .int .i64 0, .slice none 0 0], .agg #[.int .i64 (k : Int), .int .i64 fm, .int .i64 (a : Int)], .pointer (some ⟨g, 0, none⟩)])) : AnyRun fm d e w w' g y en
 | img (W H : Nat) (l : List UInt8) (c : Nat) (t : d.told = .img W H l) (u : en = .returned (.tuple #[.agg #[.int .i64 (W : Int), .int .i64 (H : Int), .slice (some ⟨c, 0, none⟩) l.length l.length], .agg #[.int .i64 0, .int .i64 0, .int .i64 0], .pointer (some ⟨g, 0, none⟩)])) (b : BytesAt w' (some ⟨c, 0, none⟩) l.length l) : AnyRun fm d e w w' g y en
theorem anyRun {fm : Int} {d : Dec} {e : Nat} {x0 : Led} {w w' : World} {en : Ending} (hb : d.bal e 0) (hr : x0.reason = 0) (h0 : x0.bytes = 0) (h : RunPost fm d x0 w w' en) : ∃ g y, LedAt w' g y ∧ y.Ok ∧ y.B = x0.B ∧ y.S = x0.S ∧ Below w.heap.size w w' ∧ AnyRun fm d e w w' g y en := by
 obtain ⟨g, y, l, yok, gn, bl, hor⟩ := h
 have hf := d.run_fix x0
 have hc := Dec.run_cases e d 0 x0 hb hr h0
 rcases hor with ⟨k, a, hk, hrun, rfl⟩ | ⟨W, H, l', c, hrun, rfl, hbt⟩
 ·rw [hrun] at hf hc
  refine ⟨g, y, l, yok, hf.1, hf.2, bl, ?_⟩
  rcases hc with ⟨a', h1, h2, h3, h4⟩ | ⟨h2, h3, h4⟩
  ·obtain ⟨rfl, rfl⟩ := DRes.bad_inj h2
   exact .spent a h1 h3 h4 rfl
  ·exact .bad k a hk (told_ne d 0 hb h2.symm).1 h2.symm rfl
 ·rw [hrun] at hf hc
  refine ⟨g, y, l, yok, hf.1, hf.2, bl, ?_⟩
  rcases hc with ⟨a', h1, h2, h3, h4⟩ | ⟨h2, h3, h4⟩
  ·cases h2
  ·exact .img W H l' c h2.symm rfl hbt
end Go.Proofs.YtgmgcfjllijhgaaGreat
namespace Go.Proofs.YtgmgcfjllijhgaaGreat
open Go.ChangeShapes Go.WideShapes Go.Deep Go.RowKit Go.Joins
set_option linter.unusedVariables false

def fits (z : Int) : Prop := -9223372036854775808 ≤ z ∧ z ≤ 9223372036854775807
section
variable {H : Type} {enc : TypeId × Value → H} {w : World} {base : Nat} {spare : Nat → Bool} {held : Bool}

end
end Go.Proofs.YtgmgcfjllijhgaaGreat
namespace Go.Proofs.YtgmgcfjllijhgaaGreat
open Go.RowKit
set_option linter.unusedVariables false
set_option linter.unusedSimpArgs false

theorem steps_at27 {w : World} {g : Nat} {x : Led} {q : Int} (h : LedAt w g x) (e : x.steps = q) : Calls Tryz.prog 18 #[.pointer (some ⟨g, 0, none⟩)] w fun e w' => e = .returned (.int .i64 q) ∧ w = w' := by
 have hc := h.steps
 rw [e] at hc
 clear h e
 go_enter Tryz.func18, Tryz.ntmps18
 go_wp2_with (go_at_call 48; refine (load64 _ _ _ hc).mono ?_; rintro e w' ⟨rfl, rfl⟩)
 go_ret
 exact ⟨rfl, rfl⟩
theorem bytesNone (w : World) : BytesAt w none 0 [] := ⟨rfl, .inl rfl⟩
theorem nought_max (c : Int) : nought c = max c 0 := by unfold nought; split <;> omega
/-- the box of a budget -/
def GB (w : World) (b : Nat) (p0 p1 p2 p3 : Int) : Prop := Blk w b 47 #[.int .i64 p0, .int .i64 p1, .int .i64 p2, .int .i64 p3]
theorem GB.all {w : World} {b : Nat} {p0 p1 p2 p3 : Int} (h : GB w b p0 p1 p2 p3) : w.cell? ⟨b, 0, none⟩ = some (.int .i64 p0) ∧ w.cell? ⟨b, 1, none⟩ = some (.int .i64 p1) ∧ w.cell? ⟨b, 2, none⟩ = some (.int .i64 p2) ∧ w.cell? ⟨b, 3, none⟩ = some (.int .i64 p3) := ⟨Blk.cell h 0, Blk.cell h 1, Blk.cell h 2, Blk.cell h 3⟩
end Go.Proofs.YtgmgcfjllijhgaaGreat
