/- An image's box; what holds in a writing's loops. -/
import Derived.Test.YtgmgcfjllijhgaaGreatWrA
namespace Go.Proofs.YtgmgcfjllijhgaaGreat
open Go.RowKit
set_option linter.unusedVariables false
set_option linter.unusedSimpArgs false

/-- an image's box -/
def im3 (W H : Int) (a : Option Addr) (n c : Nat) : Array Value := #[.int .i64 W, .int .i64 H, .slice a n c]
def IB (w : World) (b : Nat) (W H : Int) (a : Option Addr) (n c : Nat) : Prop := Blk w b 32 (im3 W H a n c)
section
variable {w w' : World} {b : Nat} {W H W' H' : Int} {a a' : Option Addr} {n c n' c' : Nat} {S : List Nat}
theorem IB.new (w : World) (W H : Int) (a : Option Addr) (n c : Nat) : IB (w.alloc (.cells #[.int .i64 W, .int .i64 H, .slice a n c] 32)) w.heap.size W H a n c := Blk.new _ _ _
theorem IB.all (h : IB w b W H a n c) : w.cell? ⟨b, 0, none⟩ = some (.int .i64 W) ∧ w.cell? ⟨b, 1, none⟩ = some (.int .i64 H) ∧ w.cell? ⟨b, 2, none⟩ = some (.slice a n c) ∧ w.frozen? ⟨b, 0, none⟩ = false ∧ w.frozen? ⟨b, 1, none⟩ = false ∧ w.frozen? ⟨b, 2, none⟩ = false ∧ b < w.heap.size :=
  ⟨Blk.cell h 0, Blk.cell h 1, Blk.cell h 2, Blk.frozen h 0, Blk.frozen h 1, Blk.frozen h 2, Blk.lt h⟩
end
theorem small_div {W : Nat} (h : W ≤ 60) : (W : Int) / 16777216 = 0 ∧ (W : Int) / 65536 = 0 ∧ (W : Int) / 256 = 0 := by omega
theorem cells_hd (w : World) (W : Nat) (h : W ≤ 60) (j : Nat) (b : UInt8) (hj : ([0, 0, 0, UInt8.ofNat W] : List UInt8)[j]? = some b) : (w.alloc (.cells #[.int .u8 0, .int .u8 0, .int .u8 0, .int .u8 (W : Int)] 5)).cell? ⟨w.heap.size, j, none⟩ = some (.int .u8 (b.toNat : Int)) :=
  cells_new w [0, 0, 0, UInt8.ofNat W] _ (by simp only [C8, List.map]; rw [ofNat8 (show W < 256 by omega)]; rfl) j b hj
theorem cells_two (w : World) (u : UInt8) (j : Nat) (b : UInt8) (hj : ([u, u] : List UInt8)[j]? = some b) : (w.alloc (.cells #[.int .u8 (u.toNat : Int), .int .u8 (u.toNat : Int)] 5)).cell? ⟨w.heap.size, j, none⟩ = some (.int .u8 (b.toNat : Int)) :=
  cells_new w [u, u] _ rfl j b hj
/-- what holds in Write's loops -/
structure WrI (w0 w : World) (W H n c b off : Nat) (l : List UInt8) : Prop where
  I : IB w w0.heap.size (W : Int) (H : Int) (some ⟨b, off, none⟩) n c
  C : ∀ j (hj : j < l.length), w.cell? ⟨b, off + j, none⟩ = some (.int .u8 (l[j].toNat : Int))
  B : Below w0.heap.size w0 w
theorem WrI.next {w0 w w' : World} {W H n c b off : Nat} {l : List UInt8} (h : WrI w0 w W H n c b off l) (hb : Below w.heap.size w w') : WrI w0 w' W H n c b off l :=
  ⟨Blk.below h.I hb (Blk.lt h.I), fun j hj => (hb.cell (p := ⟨b, off + j, none⟩) (World.block_lt_of_cell? w _ (h.C j hj))).trans (h.C j hj), below_next h.B hb⟩
theorem WrI.grow {w0 w w' : World} {W H n c b off : Nat} {l : List UInt8} {base : Nat} {v : Value} {m : List UInt8} (h : WrI w0 w W H n c b off l) (o : Owns8 w base v m) (hg : w.grownBy w' v.ownBlock) (hb : Below w0.heap.size w0 w') (hbw : b < w0.heap.size) (hbb : w0.heap.size ≤ base) : WrI w0 w' W H n c b off l :=
  ⟨h.I.grown hg (fun e => by
    rcases o.2 with ⟨rfl, _⟩ | ⟨r, cap, cur, rfl, _, hr, _⟩
    · cases e
    · have hk : w0.heap.size = r := by simpa [Value.ownBlock] using e
      subst hk
      exact Blk.ne_ h.I hr (by decide) rfl), fun j hj => by
    have h1 := h.C j hj
    refine (World.cell?_of_block (hg.block b (World.block_lt_of_cell? w _ h1) (fun e => ?_))).trans h1
    rcases o.2 with ⟨rfl, _⟩ | ⟨r, cap, cur, rfl, hr0, hr, _⟩
    · cases e
    · have hk : b = r := by simpa [Value.ownBlock] using e
      omega, hb⟩
theorem WrI.turn {S : List Nat} {w0 w w' : World} {W H n c b off : Nat} {l : List UInt8} (h : WrI w0 w W H n c b off l) (t : Turn S w w') (hS : ∀ i ∈ S, w0.heap.size < i) (hbw : b < w0.heap.size) : WrI w0 w' W H n c b off l :=
  ⟨Blk.turn h.I t (fun e => by have := hS _ e; omega), fun j hj => (t.cell (World.block_lt_of_cell? w _ (h.C j hj)) (fun e => by have := hS b e; omega) _).trans (h.C j hj), Turn.belowNext h.B t (fun i hi => by have := hS i hi; omega) h.B.size⟩
theorem WrI.drew {w0 w : World} {W H n c b off : Nat} {l : List UInt8} (h : WrI w0 w W H n c b off l) : WrI w0 w.drew W H n c b off l := ⟨h.I, h.C, h.B.drew⟩
end Go.Proofs.YtgmgcfjllijhgaaGreat
