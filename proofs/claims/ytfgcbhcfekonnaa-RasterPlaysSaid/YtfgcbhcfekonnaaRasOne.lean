/- One call of both: the boxes of 'one', what the raster, the ledger and the document's pixels are; the calls, each as a step of that. -/
import Derived.Test.YtfgcbhcfekonnaaRasImage
import Derived.Test.YtfgcbhcfekonnaaFlatLaw
import Derived.Test.YtfgcbhcfekonnaaRas6
import Derived.Test.YtfgcbhcfekonnaaRas8
namespace Go.Proofs.Ytfgcbhcfekonnaa
open Go.RowKit
set_option linter.unusedVariables false
set_option linter.unusedSimpArgs false

def LR (k p s : Int) : Led := ⟨7, 7, 196, 100000, k, p, s, 0, 0⟩
theorem LR.ok {k p s : Int} (h0 : 0 ≤ k) (h1 : k ≤ p) (h2 : p ≤ 196) (h3 : 0 ≤ s) (h4 : s ≤ 100000) : (LR k p s).Ok := by constructor <;> simp only [LR] <;> omega
theorem lr_give {k p s n : Int} (h0 : 0 ≤ n) (h : n ≤ k) : (LR k p s).give n = (LR (k - n) p s, true) := by
  unfold Led.give LR
  rw [if_neg (by simp; omega)]
theorem lr_work {k p s n : Int} (h0 : 0 ≤ n) (h : s + n ≤ 100000) : (LR k p s).work n = (LR k p (s + n), true) := by
  unfold Led.work LR
  rw [if_neg (by simp), if_neg (by simp; omega)]
theorem lr_bytes {k p s : Int} : (LR k p s).bytes = k := rfl
def opR (K X Y : Int) (q : Qc) : Array Value := #[.int .i64 K, .int .i64 X, .int .i64 Y, .int .u8 (q.r.toNat : Int), .int .u8 (q.g.toNat : Int), .int .u8 (q.b.toNat : Int), .int .u8 (q.a.toNat : Int)]
/-- a Raster's four cells, written one by one -/
def stR (w : World) (k : Nat) (W H : Int) (q n c : Nat) (o : Bool) : World := (((w.setCell ⟨k, 0, none⟩ (.int .i64 W)).setCell ⟨k, 1, none⟩ (.int .i64 H)).setCell ⟨k, 2, none⟩ (.slice (some ⟨q, 0, none⟩) n c)).setCell ⟨k, 3, none⟩ (.bool o)
section
variable {w w' w0 : World} {k g : Nat} {W H W' H' : Int} {q n c q' n' c' : Nat} {o o' : Bool} {t : TypeId} {cs : Array Value} {S : List Nat}
theorem RB.stR (h : RB w k W H q n c o) : RB (stR w k W' H' q' n' c' o') k W' H' q' n' c' o' := ((((Blk.set_ h 0 _).set_ 1 _).set_ 2 _).set_ 3 _).eq_ (by simp [refC])
theorem RZ.stR (h : RZ w k) : RB (stR w k W' H' q' n' c' o') k W' H' q' n' c' o' := ((((Blk.set_ h 0 _).set_ 1 _).set_ 2 _).set_ 3 _).eq_ (by simp [refC, refZ])
theorem Blk.stR (h : Blk w g t cs) (hk : g ≠ k) : Blk (stR w k W' H' q' n' c' o') g t cs := Blk.far (Blk.far (Blk.far (Blk.far h hk _) hk _) hk _) hk _
theorem QAt.stR {q2 : Nat} {L : List Qc} (h : QAt w q2 0 L) (hk : q2 ≠ k) : QAt (stR w k W' H' q' n' c' o') q2 0 L := (((h.far hk).far hk).far hk).far hk
theorem Turn.stR (h : Turn S w0 w) (hk : k ∈ S ∨ w0.heap.size ≤ k) : Turn S w0 (stR w k W' H' q' n' c' o') := (((h.set_ 0 _ hk).set_ 1 _ hk).set_ 2 _ hk).set_ 3 _ hk
theorem stR_size : (Go.Proofs.Ytfgcbhcfekonnaa.stR w k W' H' q' n' c' o').heap.size = w.heap.size := by simp [Go.Proofs.Ytfgcbhcfekonnaa.stR, World.setCell]
theorem QAt.turn {q2 : Nat} {L : List Qc} (h : QAt w q2 0 L) (k : Turn S w w') (hn : q2 ∉ S) : QAt w' q2 0 L := fun i q hi => by
  obtain ⟨h0, h1, h2, h3⟩ := h i q hi
  have hl := World.block_lt_of_cell? w _ h0
  exact ⟨(k.cell hl hn _).trans h0, (k.cell hl hn _).trans h1, (k.cell hl hn _).trans h2, (k.cell hl hn _).trans h3⟩
end
structure OneR (w : World) (m r g b d : Nat) (W H : Nat) (q n c : Nat) (o : Bool) (L : List Qc) (K X Y : Int) (qc : Qc) (o2 : Bool) (L2 : List Qc) (y : Led) : Prop where
  X_ : RB w m (W : Int) (H : Int) q n c o
  O : Blk w (m + 1) 41 (opR K X Y qc)
  R : RZ w (m + 2)
  Q : QAt w q 0 L
  A : RasAt w r g b (W : Int) (H : Int) o2
  M : o2 = true → BufAt w b g d (flat L2)
  G : LedAt w g y
def Ins (r g b d q m : Nat) : Prop := r < m ∧ g < m ∧ b < m ∧ d < m ∧ q ∉ [r, b, g, d]
def OneEndR (w w' : World) (r g b d W H q : Nat) (o : Bool) (L : List Qc) (y : Led) : Prop :=
  RasAt w' r g b (W : Int) (H : Int) o ∧ (o = true → BufAt w' b g d (flat L)) ∧ LedAt w' g y ∧ QAt w' q 0 L ∧ q ∉ [r, b, g, d] ∧ Turn [r, b, g, d] w w'
section
variable {w w' w0 : World} {m r g b d : Nat} {W H : Nat} {q n c q' n' c' : Nat} {o o' o2 o3 : Bool} {L L2 L3 : List Qc} {K X Y : Int} {qc : Qc} {y y' : Led} {S : List Nat}
theorem OneR.below (Q : OneR w m r g b d W H q n c o L K X Y qc o2 L2 y) (h : Below w.heap.size w w') : OneR w' m r g b d W H q n c o L K X Y qc o2 L2 y :=
  ⟨Blk.below Q.X_ h (Blk.lt Q.X_), Blk.below Q.O h (Blk.lt Q.O), Blk.below Q.R h (Blk.lt Q.R), Q.Q.below' h, Blk.below Q.A h (Blk.lt Q.A), fun e => ⟨Blk.below (Q.M e).blk h (Blk.lt (Q.M e).blk), Blk.below (Q.M e).row h (Blk.lt (Q.M e).row)⟩, Blk.below Q.G h (Blk.lt Q.G)⟩
theorem OneR.drew (Q : OneR w m r g b d W H q n c o L K X Y qc o2 L2 y) : OneR w.drew m r g b d W H q n c o L K X Y qc o2 L2 y := Q.below ((Below.refl _ _).drew)
theorem OneR.alloc (Q : OneR w m r g b d W H q n c o L K X Y qc o2 L2 y) (ob : Obj) : OneR (w.alloc ob) m r g b d W H q n c o L K X Y qc o2 L2 y := Q.below ((Below.refl _ _).alloc (Nat.le_refl _) _)
theorem OneR.turn (Q : OneR w m r g b d W H q n c o L K X Y qc o2 L2 y) (h : Turn S w w') (hS : ∀ z ∈ S, z < m) (hq : q ∉ S) (A : RasAt w' r g b (W : Int) (H : Int) o3) (M : o3 = true → BufAt w' b g d (flat L3)) (G : LedAt w' g y') : OneR w' m r g b d W H q n c o L K X Y qc o3 L3 y' :=
  ⟨Blk.turn Q.X_ h (fun e => by have := hS _ e; omega), Blk.turn Q.O h (fun e => by have := hS _ e; omega), Blk.turn Q.R h (fun e => by have := hS _ e; omega), Q.Q.turn h hq, A, M, G⟩
theorem OneR.facts (Q : OneR w m r g b d W H q n c o L K X Y qc o2 L2 y) :
    w.cell? ⟨m, 0, none⟩ = some (.int .i64 (W : Int)) ∧ w.cell? ⟨m, 1, none⟩ = some (.int .i64 (H : Int)) ∧ w.cell? ⟨m, 2, none⟩ = some (.slice (some ⟨q, 0, none⟩) n c) ∧ w.cell? ⟨m, 3, none⟩ = some (.bool o)
    ∧ w.cell? ⟨m + 1, 0, none⟩ = some (.int .i64 K) ∧ w.cell? ⟨m + 1, 1, none⟩ = some (.int .i64 X) ∧ w.cell? ⟨m + 1, 2, none⟩ = some (.int .i64 Y) ∧ w.cell? ⟨m + 1, 3, none⟩ = some (.int .u8 (qc.r.toNat : Int)) ∧ w.cell? ⟨m + 1, 4, none⟩ = some (.int .u8 (qc.g.toNat : Int)) ∧ w.cell? ⟨m + 1, 5, none⟩ = some (.int .u8 (qc.b.toNat : Int)) ∧ w.cell? ⟨m + 1, 6, none⟩ = some (.int .u8 (qc.a.toNat : Int))
    ∧ w.cell? ⟨m + 2, 0, none⟩ = some (.int .i64 0) ∧ w.cell? ⟨m + 2, 1, none⟩ = some (.int .i64 0) ∧ w.cell? ⟨m + 2, 2, none⟩ = some (.slice none 0 0) ∧ w.cell? ⟨m + 2, 3, none⟩ = some (.bool false)
    ∧ w.frozen? ⟨m, 0, none⟩ = false ∧ w.frozen? ⟨m, 1, none⟩ = false ∧ w.frozen? ⟨m, 2, none⟩ = false ∧ w.frozen? ⟨m, 3, none⟩ = false
    ∧ w.frozen? ⟨m + 2, 0, none⟩ = false ∧ w.frozen? ⟨m + 2, 1, none⟩ = false ∧ w.frozen? ⟨m + 2, 2, none⟩ = false ∧ w.frozen? ⟨m + 2, 3, none⟩ = false ∧ m < w.heap.size ∧ m + 1 < w.heap.size ∧ m + 2 < w.heap.size :=
  ⟨RB.c0 Q.X_, RB.c1 Q.X_, RB.c2 Q.X_, RB.c3 Q.X_, Blk.cell Q.O 0, Blk.cell Q.O 1, Blk.cell Q.O 2, Blk.cell Q.O 3, Blk.cell Q.O 4, Blk.cell Q.O 5, Blk.cell Q.O 6, Blk.cell Q.R 0, Blk.cell Q.R 1, Blk.cell Q.R 2, Blk.cell Q.R 3,
    Blk.frozen Q.X_ 0, Blk.frozen Q.X_ 1, Blk.frozen Q.X_ 2, Blk.frozen Q.X_ 3, Blk.frozen Q.R 0, Blk.frozen Q.R 1, Blk.frozen Q.R 2, Blk.frozen Q.R 3, Blk.lt Q.X_, Blk.lt Q.O, Blk.lt Q.R⟩
theorem OneR.ne (Q : OneR w m r g b d W H q n c o L K X Y qc o2 L2 y) (hI : Ins r g b d q m) : q ∉ [r, b, g, d] := hI.2.2.2.2
/-- the box of x written anew -/
theorem OneR.stX (Q : OneR w m r g b d W H q n c o L K X Y qc o2 L2 y) (hI : Ins r g b d q m) (hQ : QAt w q' 0 L3) (hq : m + 2 < q') : OneR (stR w m (W : Int) (H : Int) q' n' c' o') m r g b d W H q' n' c' o' L3 K X Y qc o2 L2 y := by
  obtain ⟨h1, h2, h3, h4, _⟩ := hI
  exact ⟨RB.stR Q.X_, Blk.stR Q.O (by omega), Blk.stR Q.R (by omega), hQ.stR (by omega), Blk.stR Q.A (by omega), fun e => ⟨Blk.stR (Q.M e).blk (by omega), Blk.stR (Q.M e).row (by omega)⟩, Blk.stR Q.G (by omega)⟩
/-- x.Open = false -/
theorem OneR.shut (Q : OneR w m r g b d W H q n c o L K X Y qc o2 L2 y) (hI : Ins r g b d q m) (hq : q ≠ m) : OneR (w.setCell ⟨m, 3, none⟩ (.bool false)) m r g b d W H q n c false L K X Y qc o2 L2 y := by
  obtain ⟨h1, h2, h3, h4, _⟩ := hI
  exact ⟨(Blk.set_ Q.X_ 3 _).eq_ (by simp [refC]), Blk.far Q.O (by simp) _, Blk.far Q.R (by simp) _, Q.Q.far hq, Blk.far Q.A (by simp; omega) _, fun e => ⟨Blk.far (Q.M e).blk (by simp; omega) _, Blk.far (Q.M e).row (by simp; omega) _⟩, Blk.far Q.G (by simp; omega) _⟩
/-- the results' box written -/
theorem OneR.fin (Q : OneR w m r g b d W H q n c o L K X Y qc o2 L y) (T : Turn [r, b, g, d] w0 w) (hr : r < m) (hg : g < m) (hb : b < m) (hd : d < m) (hq : q ∉ [r, b, g, d]) (hq2 : q ≠ m + 2) (hn : w0.heap.size ≤ m) :
    RB (stR w (m + 2) (W : Int) (H : Int) q n c o') (m + 2) (W : Int) (H : Int) q n c o' ∧ OneEndR w0 (stR w (m + 2) (W : Int) (H : Int) q n c o') r g b d W H q o2 L y :=
  ⟨RZ.stR Q.R, Blk.stR Q.A (by omega), fun e => ⟨Blk.stR (Q.M e).blk (by omega), Blk.stR (Q.M e).row (by omega)⟩, Blk.stR Q.G (by omega), Q.Q.stR hq2, hq, T.stR (.inr (by omega))⟩
theorem OneEndR.drew (h : OneEndR w w' r g b d W H q o L y) : OneEndR w w'.drew r g b d W H q o L y :=
  ⟨h.1, fun e => ⟨(h.2.1 e).blk, (h.2.1 e).row⟩, h.2.2.1, h.2.2.2.1, h.2.2.2.2.1, h.2.2.2.2.2.drew⟩
end
end Go.Proofs.Ytfgcbhcfekonnaa
