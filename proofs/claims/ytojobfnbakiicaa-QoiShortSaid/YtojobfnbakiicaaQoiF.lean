/- qoi: Write. -/
import Derived.Test.YtojobfnbakiicaaQoiEnc
import Derived.Test.YtojobfnbakiicaaWrB
import Derived.Test.YtojobfnbakiicaaRasImg4
namespace Go.Proofs.Ytojobfnbakiicaa
open Go.RowKit
set_option linter.unusedVariables false
set_option linter.unusedSimpArgs false

theorem convLit4 (w : World) : (convert 24 24 (.slice (some ⟨w.heap.size, 0, none⟩) 4 4)).run Try.prog (w.alloc (.cells #[.int .u8 113, .int .u8 111, .int .u8 105, .int .u8 102] 5)) = .ok (.slice (some ⟨w.heap.size, 0, none⟩) 4 4) (w.alloc (.cells #[.int .u8 113, .int .u8 111, .int .u8 105, .int .u8 102] 5 (4, 5))) :=
  Go.Lib.run_convert_bytes_const w 24 5 _ 4 4 Try.underlying24 Try.underlying5
def Lit4 (w : World) (g : Nat) : Prop := ∀ (j : Nat) (b : UInt8), qW[j]? = some b → w.cell? ⟨g, j, none⟩ = some (.int .u8 (b.toNat : Int))
theorem lit4_new (w : World) : Lit4 (w.alloc (.cells #[.int .u8 113, .int .u8 111, .int .u8 105, .int .u8 102] 5 (4, 5))) w.heap.size := by
  intro j b hj
  refine (cell_of_row _ _ j _ _ _ (heap_alloc_new w _)).trans ?_
  have hj8 : j < 4 := (List.getElem?_eq_some_iff.1 hj).1
  rcases (by omega : j = 0 ∨ j = 1 ∨ j = 2 ∨ j = 3) with rfl | rfl | rfl | rfl
  all_goals (simp [qW] at hj; subst hj; rfl)
theorem Lit4.below {w w' : World} {g : Nat} (h : Lit4 w g) (hb : Below w.heap.size w w') : Lit4 w' g := fun j b hj => (hb.cell (p := ⟨g, j, none⟩) (World.block_lt_of_cell? w _ (h j b hj))).trans (h j b hj)
theorem Lit4.turn {S : List Nat} {w w' : World} {g : Nat} (h : Lit4 w g) (t : Turn S w w') (hg : g ∉ S) : Lit4 w' g := fun j b hj => (t.cell (World.block_lt_of_cell? w _ (h j b hj)) hg j).trans (h j b hj)
theorem Owns8.form {w : World} {base : Nat} {v : Value} {l : List UInt8} (h : Owns8 w base v l) : ∃ p n k, v = Value.slice p n k := by
  rcases h.2 with h | ⟨g, cap, cur, hv, _⟩
  · exact ⟨_, _, _, h.1⟩
  · exact ⟨_, _, _, hv⟩
theorem OutB.all {w : World} {b : Nat} {v : Value} (h : OutB w b v) : w.cell? ⟨b, 0, none⟩ = some v ∧ w.frozen? ⟨b, 0, none⟩ = false ∧ b < w.heap.size := ⟨Blk.cell h 0, Blk.frozen h 0, Blk.lt h⟩
/-- the bytes' box and what it holds, behind an append and a store -/
theorem OutB.put {w w' : World} {bo base : Nat} {v v' : Value} {l m : List UInt8} (h : OutB w bo v) (own : Owns8 w base v l) (hg : w.grownBy w' v.ownBlock) (own' : Owns8 w' base v' m) : OutB (w'.setCell ⟨bo, 0, none⟩ v') bo v' ∧ Owns8 (w'.setCell ⟨bo, 0, none⟩ v') base v' m ∧ Turn (bo :: v.ownBlock.toList) w (w'.setCell ⟨bo, 0, none⟩ v') := by
  have O3 : OutB w' bo v := (hg.block bo (Blk.lt h) (fun e => own.ne h (by decide) bo e.symm rfl)).trans h
  have T3 : Turn (bo :: v.ownBlock.toList) w w' := Turn.of_own hg (fun k hk => by simp [hk])
  have T4 : Turn [bo] w' (w'.setCell ⟨bo, 0, none⟩ v') := (Turn.refl _ _).set_ 0 _ (by simp)
  exact ⟨(Blk.set_ O3 0 _).eq_ rfl, own'.turn T4 (fun k hk => by simpa using own'.ne O3 (by decide) k hk), T3.trans (T4.mono (by simp))⟩
theorem OutB.putNew {w w' : World} {bo base : Nat} {v v' : Value} {m : List UInt8} (h : OutB w bo v) (hb : Below w.heap.size w w') (own' : Owns8 w' base v' m) : OutB (w'.setCell ⟨bo, 0, none⟩ v') bo v' ∧ Owns8 (w'.setCell ⟨bo, 0, none⟩ v') base v' m ∧ Turn [bo] w (w'.setCell ⟨bo, 0, none⟩ v') := by
  have O3 : OutB w' bo v := Blk.below h hb (Blk.lt h)
  have T3 : Turn [bo] w w' := Turn.of_below hb
  have T4 : Turn [bo] w' (w'.setCell ⟨bo, 0, none⟩ v') := (Turn.refl _ _).set_ 0 _ (by simp)
  exact ⟨(Blk.set_ O3 0 _).eq_ rfl, own'.turn T4 (fun k hk => by simpa using own'.ne O3 (by decide) k hk), T3.trans T4⟩
/-- what holds in Write's loop over pixels -/
structure QwI (w0 w : World) (W H n c b off : Nat) (l : List UInt8) (br bo x : Nat) (v : Value) (q : QE) : Prop where
  P : WrI w0 w W H n c b off l
  R : RunB w br (q.run : Int)
  O : OutB w bo v
  own : Owns8 w w0.heap.size v q.out
  X : CodAt w x q.last q.seen
  nr : w0.heap.size < br
  no : w0.heap.size < bo
  nx : w0.heap.size < x
section
variable {w0 w w' : World} {W H n c b off : Nat} {l : List UInt8} {br bo x : Nat} {v v' : Value} {q : QE}
theorem QwI.vnew (h : QwI w0 w W H n c b off l br bo x v q) : ∀ i ∈ br :: bo :: v.ownBlock.toList, w0.heap.size < i := by
  intro i hi
  simp only [List.mem_cons, Option.mem_toList] at hi
  rcases hi with rfl | rfl | hi
  · exact h.nr
  · exact h.no
  · have h1 := (World.ownsRow.lt h.own i hi).1
    have h2 := h.own.ne h.P.I (by decide) i hi
    omega
theorem QwI.below (h : QwI w0 w W H n c b off l br bo x v q) (hb : Below w.heap.size w w') : QwI w0 w' W H n c b off l br bo x v q :=
  ⟨h.P.next hb, Blk.below h.R hb (Blk.lt h.R), Blk.below h.O hb (Blk.lt h.O), h.own.turn (Turn.of_below (S := []) hb) (by simp), ⟨Blk.below h.X.1 hb (Blk.lt h.X.1), h.X.2⟩, h.nr, h.no, h.nx⟩
theorem QwI.drew (h : QwI w0 w W H n c b off l br bo x v q) : QwI w0 w.drew W H n c b off l br bo x v q := ⟨h.P.drew, h.R, h.O, h.own, h.X, h.nr, h.no, h.nx⟩
/-- a step on a new box of a colour -/
theorem QwI.fresh (h : QwI w0 w W H n c b off l br bo x v q) (hbw : b < w0.heap.size) {qb : Nat} {k : Qc} (hn : w0.heap.size < qb) (y : QB w qb k) (t : Turn [qb] w w') : QwI w0 w' W H n c b off l br bo x v q :=
  ⟨h.P.turn t (by simpa using hn) hbw, Blk.turn h.R t (by simpa using Blk.ne_ h.R y (by decide)), Blk.turn h.O t (by simpa using Blk.ne_ h.O y (by decide)), h.own.turn t (fun k hk => by simpa using h.own.ne y (by decide) k hk), ⟨Blk.turn h.X.1 t (by simpa using Blk.ne_ h.X.1 y (by decide)), h.X.2⟩, h.nr, h.no, h.nx⟩
theorem QwI.flush (h : QwI w0 w W H n c b off l br bo x v q) (hbw : b < w0.heap.size) (r : RunB w' br 0) (o : OutB w' bo v') (own : Owns8 w' w0.heap.size v' (flushL q.run q.out)) (t : Turn (br :: bo :: v.ownBlock.toList) w w') : QwI w0 w' W H n c b off l br bo x v' ⟨0, q.last, q.seen, flushL q.run q.out⟩ :=
  ⟨h.P.turn t h.vnew hbw, r, o, own, ⟨Blk.turn h.X.1 t (by
    simp only [List.mem_cons, Option.mem_toList, not_or]
    exact ⟨Blk.ne_ h.X.1 h.R (by decide), Blk.ne_ h.X.1 h.O (by decide), fun e => h.own.ne h.X.1 (by decide) x e rfl⟩), h.X.2⟩, h.nr, h.no, h.nx⟩
/-- another block stays over a flush -/
theorem QwI.keepF (h : QwI w0 w W H n c b off l br bo x v q) {k : Nat} {tt : TypeId} {cs : Array Value} (hk : Blk w k tt cs) (h1 : tt ≠ 3) (h2 : tt ≠ 24) (h3 : tt ≠ 5) (t : Turn (br :: bo :: v.ownBlock.toList) w w') : Blk w' k tt cs :=
  Blk.turn hk t (by
    simp only [List.mem_cons, Option.mem_toList, not_or]
    exact ⟨Blk.ne_ hk h.R h1, Blk.ne_ hk h.O h2, fun e => h.own.ne hk h3 k e rfl⟩)
theorem QwI.put (h : QwI w0 w W H n c b off l br bo x v q) (hbw : b < w0.heap.size) {m : List UInt8} (o : OutB w' bo v') (own : Owns8 w' w0.heap.size v' m) (t : Turn (bo :: v.ownBlock.toList) w w') : QwI w0 w' W H n c b off l br bo x v' ⟨q.run, q.last, q.seen, m⟩ :=
  ⟨h.P.turn t (fun i hi => h.vnew i (List.mem_cons_of_mem _ hi)) hbw, Blk.turn h.R t (by
    simp only [List.mem_cons, Option.mem_toList, not_or]
    exact ⟨Blk.ne_ h.R h.O (by decide), fun e => h.own.ne h.R (by decide) br e rfl⟩), o, own, ⟨Blk.turn h.X.1 t (by
    simp only [List.mem_cons, Option.mem_toList, not_or]
    exact ⟨Blk.ne_ h.X.1 h.O (by decide), fun e => h.own.ne h.X.1 (by decide) x e rfl⟩), h.X.2⟩, h.nr, h.no, h.nx⟩
theorem QwI.note (h : QwI w0 w W H n c b off l br bo x v q) (hbw : b < w0.heap.size) {k : Qc} {s : List Qc} (y : CodAt w' x k s) (t : Turn [x] w w') : QwI w0 w' W H n c b off l br bo x v ⟨q.run, k, s, q.out⟩ :=
  ⟨h.P.turn t (by simpa using h.nx) hbw, Blk.turn h.R t (by simpa using Blk.ne_ h.R h.X.1 (by decide)), Blk.turn h.O t (by simpa using Blk.ne_ h.O h.X.1 (by decide)), h.own.turn t (fun k hk => by simpa using h.own.ne h.X.1 (by decide) k hk), y, h.nr, h.no, h.nx⟩
theorem QwI.run (h : QwI w0 w W H n c b off l br bo x v q) (hbw : b < w0.heap.size) {m : Nat} {z : Int} (hz : z = (m : Int)) : QwI w0 (w.setCell ⟨br, 0, none⟩ (.int .i64 z)) W H n c b off l br bo x v ⟨m, q.last, q.seen, q.out⟩ := by
  subst hz
  have t : Turn [br] w (w.setCell ⟨br, 0, none⟩ (.int .i64 (m : Int))) := (Turn.refl _ _).set_ 0 _ (by simp)
  exact ⟨h.P.turn t (by simpa using h.nr) hbw, (Blk.set_ h.R 0 _).eq_ rfl, Blk.turn h.O t (by simpa using (Blk.ne_ h.O h.R (by decide))), h.own.turn t (fun k hk => by simpa using h.own.ne h.R (by decide) k hk), ⟨Blk.turn h.X.1 t (by simpa using Blk.ne_ h.X.1 h.R (by decide)), h.X.2⟩, h.nr, h.no, h.nx⟩
end
end Go.Proofs.Ytojobfnbakiicaa
