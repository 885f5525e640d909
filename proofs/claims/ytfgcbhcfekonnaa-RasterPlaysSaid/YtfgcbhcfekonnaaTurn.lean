/- Only some blocks, and what is new, have turned. -/
import Derived.Test.YtfgcbhcfekonnaaLedWalk
namespace Go.Proofs.Ytfgcbhcfekonnaa
open Go.RowKit
set_option linter.unusedVariables false

structure Turn (S : List Nat) (w w' : World) : Prop where
  os : w'.os = w.os
  tape : w'.tape = w.tape
  output : w'.output = w.output
  size : w.heap.size ≤ w'.heap.size
  block : ∀ i, i < w.heap.size → i ∉ S → w'.heap[i]? = w.heap[i]?

section
variable {S S' : List Nat} {w w' a b c : World} {g : Nat} {t : TypeId} {cs : Array Value}
theorem Turn.refl (S : List Nat) (w : World) : Turn S w w := ⟨rfl, rfl, rfl, Nat.le_refl _, fun _ _ _ => rfl⟩
theorem Turn.of_grown (h : w.grownBy w' (some g)) (hg : g ∈ S) : Turn S w w' := ⟨h.os, h.tape, h.output, h.size, fun i hi hn => h.block i hi (fun e => hn (by injection e with e; exact e ▸ hg))⟩
theorem Turn.of_none {row : Option Nat} (h : w.grownBy w' row) (hr : ∀ k, row = some k → w.heap.size ≤ k) : Turn S w w' := ⟨h.os, h.tape, h.output, h.size, fun i hi hn => h.block i hi (fun e => by have := hr i e.symm; omega)⟩
theorem Turn.of_below (h : Below w.heap.size w w') : Turn S w w' := ⟨h.os, h.tape, h.output, h.size, fun i hi _ => h.block i hi⟩
theorem Turn.trans (h : Turn S a b) (k : Turn S b c) : Turn S a c := ⟨k.os.trans h.os, k.tape.trans h.tape, k.output.trans h.output, Nat.le_trans h.size k.size, fun i hi hn => (k.block i (Nat.lt_of_lt_of_le hi h.size) hn).trans (h.block i hi hn)⟩
theorem Turn.mono (h : Turn S a b) (hs : ∀ i ∈ S, i ∈ S' ∨ a.heap.size ≤ i) : Turn S' a b := ⟨h.os, h.tape, h.output, h.size, fun i hi hn => h.block i hi (fun e => (hs i e).elim hn (fun k => by omega))⟩
/-- behind an elder step: what is new to the elder world may turn -/
theorem Turn.next (h : Turn S a b) (k : Turn S' b c) (hs : ∀ i ∈ S', i ∈ S ∨ a.heap.size ≤ i) : Turn S a c :=
  ⟨k.os.trans h.os, k.tape.trans h.tape, k.output.trans h.output, Nat.le_trans h.size k.size, fun i hi hn => (k.block i (Nat.lt_of_lt_of_le hi h.size) (fun e => (hs i e).elim hn (fun m => by omega))).trans (h.block i hi hn)⟩
theorem Turn.drew (h : Turn S a w) : Turn S a w.drew := ⟨h.os, h.tape, h.output, h.size, h.block⟩
theorem Turn.drewN (h : Turn S a w) (n : Nat) : Turn S a (w.drewN n) := ⟨h.os, h.tape, h.output, h.size, h.block⟩
theorem Turn.alloc (h : Turn S a w) (o : Obj) : Turn S a (w.alloc o) :=
  ⟨h.os, h.tape, h.output, Nat.le_trans h.size (by simp), fun i hi hne => (Below.heap_alloc w o i (Nat.lt_of_lt_of_le hi h.size)).trans (h.block i hi hne)⟩
theorem Turn.set_ (h : Turn S a w) (i : Nat) (u : Value) (hg : g ∈ S ∨ a.heap.size ≤ g) : Turn S a (w.setCell ⟨g, i, none⟩ u) :=
  ⟨h.os, h.tape, h.output, by simpa [World.setCell] using h.size, fun j hi hne => (Below.heap_setCell w _ u j (by rintro rfl; exact hg.elim hne (fun k => absurd hi (by simp; omega)))).trans (h.block j hi hne)⟩
theorem Turn.below {B : Nat} (h : Turn S a b) (hs : ∀ i ∈ S, B ≤ i) (hB : B ≤ a.heap.size) : Below B a b :=
  ⟨h.os, h.tape, h.output, h.size, fun i hi => h.block i (by omega) (fun e => by have := hs i e; omega)⟩
theorem Blk.turn (h : Blk w g t cs) (k : Turn S w w') (hn : g ∉ S) : Blk w' g t cs := (k.block g h.lt hn).trans h
theorem Turn.cell (h : Turn S w w') {i : Nat} (hi : i < w.heap.size) (hn : i ∉ S) (o : Nat) : w'.cell? ⟨i, o, none⟩ = w.cell? ⟨i, o, none⟩ := World.cell?_of_block (h.block i hi hn)
/-- a step of new blocks behind a step that only made memory -/
theorem Turn.belowNext {B : Nat} (h : Below B a b) (k : Turn S b c) (hs : ∀ i ∈ S, B ≤ i) (hB : B ≤ b.heap.size) : Below B a c := h.trans (k.below hs hB)
theorem LedAt.turn {x : Led} (h : LedAt w g x) (k : Turn S w w') (hg : g ∉ S) : LedAt w' g x := Blk.turn h k hg
theorem not_mem_one {a b : Nat} (h : a ≠ b) : a ∉ [b] := by simpa using h
end
end Go.Proofs.Ytfgcbhcfekonnaa
