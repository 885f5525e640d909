/- sync/atomic and sync.Once in one goroutine: contracts at any address. sync.Once in one goroutine: Do the first time, and after; for any function that it is handed. sync.Once, Do of a method's value: the first time. A block that is known whole; what a step leaves of it; only one block has turned. Plain: a ledger's counts, and its calls. The ledger's methods by their contracts: the block of a ledger is its counts. The ledger's New, Sides, First; awake of chapter 2. The ledger's calls from a known state; awake of chapter 2. Only some blocks, and what is new, have turned. -/
import Derived.Test.YtakhobmoalfaoaaDoorWords
import Derived.Defers
import Derived.Laws.Pointers
import Derived.Laws.LoneSync
import Derived.Laws.NewBlocks
import Derived.RegionTactic
import Derived.RegionCalls
import Derived.ChangeAlike
import Derived.Laws.Rows
import Derived.StillTailTactics
namespace Go.Proofs.YtakhobmoalfaoaaDoor
open Go.RowKit
set_option linter.unusedVariables false

theorem sNot (x : Bool) (w : World) : (Op.unary .not (.bool x)).run Tryd.prog w = .ok (.bool (!x)) w := rfl

end Go.Proofs.YtakhobmoalfaoaaDoor
namespace Go.Proofs.YtakhobmoalfaoaaDoor
open Go.RowKit
set_option linter.unusedVariables false

/-- the world behind the first Do: what the function left, the mark laid, the lock let go -/
def OnceEnd (g o : Nat) (R : World → Prop) (w' : World) : Prop :=
  ∃ w2, R w2 ∧ w' = ((w2.drew.setCell ⟨g, o, none⟩ (.int .u32 1)).setCell ⟨g, o + 1, none⟩ (.int .i32 0))

end Go.Proofs.YtakhobmoalfaoaaDoor
namespace Go.Proofs.YtakhobmoalfaoaaDoor
open Go.RowKit
set_option linter.unusedVariables false

end Go.Proofs.YtakhobmoalfaoaaDoor
namespace Go.Proofs.YtakhobmoalfaoaaDoor
open Go.RowKit
set_option linter.unusedVariables false

theorem addr_ne {b c i j : Nat} (h : b ≠ c) : (⟨b, i, none⟩ : Addr) ≠ ⟨c, j, none⟩ := fun e => h (congrArg Addr.block e)
theorem addr_ne_off {b i j : Nat} (h : i ≠ j) : (⟨b, i, none⟩ : Addr) ≠ ⟨b, j, none⟩ := fun e => h (congrArg Addr.off e)
/-- block g is just the cells cs of element type t, none frozen -/
def Blk (w : World) (g : Nat) (t : TypeId) (cs : Array Value) : Prop := w.heap[g]? = some (.cells cs t (0, 0))

section
variable {w w' a : World} {g : Nat} {t : TypeId} {cs : Array Value}
theorem Blk.lt (h : Blk w g t cs) : g < w.heap.size := by
  rcases Nat.lt_or_ge g w.heap.size with hlt | hge
  · exact hlt
  · unfold Blk at h; rw [Array.getElem?_eq_none hge] at h; cases h
theorem Blk.cell (h : Blk w g t cs) (i : Nat) : w.cell? ⟨g, i, none⟩ = cs[i]? := cell_of_row w g i cs t (0, 0) h
theorem Blk.frozen (h : Blk w g t cs) (i : Nat) : w.frozen? ⟨g, i, none⟩ = false := by
  unfold Blk at h
  simp [World.frozen?, h]
theorem Blk.new (w : World) (t : TypeId) (cs : Array Value) : Blk (w.alloc (.cells cs t)) w.heap.size t cs := heap_alloc_new w _
theorem Blk.new_at {n : Nat} (w : World) (t : TypeId) (cs : Array Value) (h : n = w.heap.size) : Blk (w.alloc (.cells cs t)) n t cs := by subst h; exact Blk.new w t cs
theorem Blk.drew (h : Blk w g t cs) : Blk w.drew g t cs := h
theorem Blk.drewN (h : Blk w g t cs) (n : Nat) : Blk (w.drewN n) g t cs := h
theorem Blk.alloc (h : Blk w g t cs) (o : Obj) : Blk (w.alloc o) g t cs := (Below.heap_alloc w o g h.lt).trans h
theorem Blk.set_ (h : Blk w g t cs) (i : Nat) (u : Value) : Blk (w.setCell ⟨g, i, none⟩ u) g t (cs.setIfInBounds i u) := by
  unfold Blk at h ⊢
  simp [World.setCell, Array.getElem?_modify, h]
theorem Blk.far (h : Blk w g t cs) {p : Addr} (hp : g ≠ p.block) (u : Value) : Blk (w.setCell p u) g t cs := (Below.heap_setCell w p u g hp).trans h
theorem Blk.below {B : Nat} (h : Blk w g t cs) (hb : Below B w w') (hg : g < B) : Blk w' g t cs := (hb.block g hg).trans h
theorem Blk.grown {row : Option Nat} (h : Blk w g t cs) (hb : w.grownBy w' row) (hg : some g ≠ row) : Blk w' g t cs := (hb.block g h.lt hg).trans h
theorem Blk.eq_ {cs' : Array Value} (h : Blk w g t cs) (e : cs = cs') : Blk w g t cs' := e ▸ h
theorem Blk.ne_ {g' : Nat} {t' : TypeId} {cs' : Array Value} (h : Blk w g t cs) (h' : Blk w g' t' cs') (hne : t ≠ t') : g ≠ g' := by
  rintro rfl
  unfold Blk at h h'
  rw [h] at h'
  injection h' with h'
  injection h' with _ ht
  exact hne ht

/-- only block g, and what is new, has turned -/
theorem only_refl (w : World) (row : Option Nat) : w.grownBy w row := ⟨rfl, rfl, rfl, Nat.le_refl _, fun _ _ _ => rfl⟩
theorem only_drew {row : Option Nat} (h : a.grownBy w row) : a.grownBy w.drew row := ⟨h.os, h.tape, h.output, h.size, h.block⟩
theorem only_drewN {row : Option Nat} (h : a.grownBy w row) (n : Nat) : a.grownBy (w.drewN n) row := ⟨h.os, h.tape, h.output, h.size, h.block⟩
theorem only_alloc {row : Option Nat} (h : a.grownBy w row) (o : Obj) : a.grownBy (w.alloc o) row :=
  ⟨h.os, h.tape, h.output, Nat.le_trans h.size (by simp), fun i hi hne => (Below.heap_alloc w o i (Nat.lt_of_lt_of_le hi h.size)).trans (h.block i hi hne)⟩
theorem only_set (h : a.grownBy w (some g)) (i : Nat) (u : Value) : a.grownBy (w.setCell ⟨g, i, none⟩ u) (some g) :=
  ⟨h.os, h.tape, h.output, by simpa [World.setCell] using h.size, fun i hi hne => (Below.heap_setCell w _ u i (by rintro rfl; exact hne rfl)).trans (h.block i hi hne)⟩
theorem only_set_new {row : Option Nat} (h : a.grownBy w row) {b : Nat} (hb : a.heap.size ≤ b) (i : Nat) (u : Value) : a.grownBy (w.setCell ⟨b, i, none⟩ u) row :=
  ⟨h.os, h.tape, h.output, by simpa [World.setCell] using h.size, fun i hi hne => (Below.heap_setCell w _ u i (by rintro rfl; exact absurd hi (by simp; omega))).trans (h.block i hi hne)⟩
theorem only_trans {row : Option Nat} {b c : World} (h : a.grownBy b row) (k : b.grownBy c row) : a.grownBy c row :=
  ⟨k.os.trans h.os, k.tape.trans h.tape, k.output.trans h.output, Nat.le_trans h.size k.size, fun i hi hne => (k.block i (Nat.lt_of_lt_of_le hi h.size) hne).trans (h.block i hi hne)⟩
theorem only_of_below (h : Below a.heap.size a w) (row : Option Nat) : a.grownBy w row := ⟨h.os, h.tape, h.output, h.size, fun i hi _ => h.block i hi⟩
/-- a block that is new to the elder world may turn -/
theorem below_of_only {B : Nat} (h : a.grownBy w (some g)) (hg : B ≤ g) (hB : B ≤ a.heap.size) : Below B a w :=
  ⟨h.os, h.tape, h.output, h.size, fun i hi => h.block i (by omega) (fun e => by injection e with e; omega)⟩
/-- every other old cell reads as before -/
theorem only_cell (h : w.grownBy w' (some g)) : (∀ b o, b < w.heap.size → b ≠ g → w'.cell? ⟨b, o, none⟩ = w.cell? ⟨b, o, none⟩) ∧ (∀ b o, b < w.heap.size → b ≠ g → w'.frozen? ⟨b, o, none⟩ = w.frozen? ⟨b, o, none⟩) :=
  ⟨fun b o hb hne => World.cell?_of_block (h.block b hb (fun e => hne (by injection e))), fun b o hb hne => World.frozen?_of_block (h.block b hb (fun e => hne (by injection e)))⟩
end
end Go.Proofs.YtakhobmoalfaoaaDoor
namespace Go.Proofs.YtakhobmoalfaoaaDoor
set_option linter.unusedVariables false

structure Led where
  W : Int
  H : Int
  B : Int
  S : Int
  bytes : Int
  peak : Int
  steps : Int
  reason : Int
  asked : Int
def nought (v : Int) : Int := if v < 0 then 0 else v
def Led.new (w h b s : Int) : Led := ⟨nought w, nought h, nought b, nought s, 0, 0, 0, 0, 0⟩
def Led.refused (x : Led) (r a : Int) : Led := { x with reason := r, asked := a }
def Led.sides (x : Led) (w h : Int) : Led × Bool :=
  if x.reason ≠ 0 then (x, false) else if w < 1 ∨ x.W < w then (x.refused 1 w, false) else if h < 1 ∨ x.H < h then (x.refused 1 h, false) else (x, true)
def Led.take (x : Led) (n : Int) : Led × Bool :=
  if x.reason ≠ 0 then (x, false) else if n < 0 ∨ x.B - x.bytes < n then (x.refused 2 n, false) else ({ x with bytes := x.bytes + n, peak := if x.peak < x.bytes + n then x.bytes + n else x.peak }, true)
def Led.give (x : Led) (n : Int) : Led × Bool :=
  if n < 0 ∨ x.bytes < n then (x, false) else ({ x with bytes := x.bytes - n }, true)
def Led.work (x : Led) (n : Int) : Led × Bool :=
  if x.reason ≠ 0 then (x, false) else if n < 0 ∨ x.S - x.steps < n then (x.refused 3 n, false) else ({ x with steps := x.steps + n }, true)

/-- what holds of every ledger that its own calls made -/
structure Led.Ok (x : Led) : Prop where
  w0 : 0 ≤ x.W
  w1 : x.W ≤ 9223372036854775807
  h0 : 0 ≤ x.H
  h1 : x.H ≤ 9223372036854775807
  b1 : x.B ≤ 9223372036854775807
  s1 : x.S ≤ 9223372036854775807
  y0 : 0 ≤ x.bytes
  y1 : x.bytes ≤ x.B
  p0 : x.bytes ≤ x.peak
  p1 : x.peak ≤ x.B
  t0 : 0 ≤ x.steps
  t1 : x.steps ≤ x.S

theorem nought_range {v : Int} (h : v ≤ 9223372036854775807) : 0 ≤ nought v ∧ nought v ≤ 9223372036854775807 := by unfold nought; split <;> omega
theorem Led.ok_new {w h b s : Int} (hw : w ≤ 9223372036854775807) (hh : h ≤ 9223372036854775807) (hb : b ≤ 9223372036854775807) (hs : s ≤ 9223372036854775807) : (Led.new w h b s).Ok := by
  have a := nought_range hw
  have b' := nought_range hh
  have c := nought_range hb
  have d := nought_range hs
  exact ⟨a.1, a.2, b'.1, b'.2, c.2, d.2, Int.le_refl _, c.1, Int.le_refl _, c.1, Int.le_refl _, d.1⟩
theorem Led.Ok.refused {x : Led} (h : x.Ok) (r a : Int) : (x.refused r a).Ok := ⟨h.w0, h.w1, h.h0, h.h1, h.b1, h.s1, h.y0, h.y1, h.p0, h.p1, h.t0, h.t1⟩
theorem Led.Ok.sides {x : Led} (h : x.Ok) (a b : Int) : (x.sides a b).1.Ok := by
  unfold Led.sides
  split
  · exact h
  · split
    · exact h.refused _ _
    · split
      · exact h.refused _ _
      · exact h
theorem Led.Ok.take {x : Led} (h : x.Ok) (n : Int) : (x.take n).1.Ok := by
  unfold Led.take
  split
  · exact h
  · split
    · exact h.refused _ _
    · obtain ⟨a, b, c, d, e, f, g, i, j, k, l, m⟩ := h
      refine ⟨a, b, c, d, e, f, ?_, ?_, ?_, ?_, l, m⟩ <;> simp only <;> (try split) <;> omega
theorem Led.Ok.give {x : Led} (h : x.Ok) (n : Int) : (x.give n).1.Ok := by
  unfold Led.give
  split
  · exact h
  · obtain ⟨a, b, c, d, e, f, g, i, j, k, l, m⟩ := h
    refine ⟨a, b, c, d, e, f, ?_, ?_, ?_, ?_, l, m⟩ <;> simp only <;> omega
theorem Led.Ok.work {x : Led} (h : x.Ok) (n : Int) : (x.work n).1.Ok := by
  unfold Led.work
  split
  · exact h
  · split
    · exact h.refused _ _
    · obtain ⟨a, b, c, d, e, f, g, i, j, k, l, m⟩ := h
      refine ⟨a, b, c, d, e, f, g, i, j, k, ?_, ?_⟩ <;> simp only <;> omega
end Go.Proofs.YtakhobmoalfaoaaDoor
namespace Go.Proofs.YtakhobmoalfaoaaDoor
open Go.RowKit
set_option linter.unusedVariables false

def Led.flag (x : Led) : Int := if x.reason = 0 then 0 else 1
def Led.cells (x : Led) : Array Value := #[.int .i64 x.W, .int .i64 x.H, .int .i64 x.B, .int .i64 x.S, .int .i64 x.bytes, .int .i64 x.peak, .int .i64 x.steps, .int .u32 x.flag, .int .u32 x.flag, .int .i32 0, .int .u32 0, .int .i64 x.reason, .int .i64 x.asked]
section
variable {w : World} {g : Nat} {x : Led}
end

theorem Led.flag_b (x : Led) : (x.flag != 0) = decide (x.reason ≠ 0) := by
  unfold Led.flag
  split <;> rename_i h <;> simp [h]

end Go.Proofs.YtakhobmoalfaoaaDoor
namespace Go.Proofs.YtakhobmoalfaoaaDoor
open Go.RowKit
set_option linter.unusedVariables false

end Go.Proofs.YtakhobmoalfaoaaDoor
namespace Go.Proofs.YtakhobmoalfaoaaDoor
open Go.RowKit
set_option linter.unusedVariables false

section
variable {w : World} {g : Nat} {x y : Led} {n m : Int} {b : Bool}
theorem below_step {a c : World} (h : Below w.heap.size w a) (k : a.grownBy c (some g)) (hg : w.heap.size ≤ g) : Below w.heap.size w c := h.trans (below_of_only k hg h.size)
theorem below_next {a c : World} (h : Below w.heap.size w a) (k : Below a.heap.size a c) : Below w.heap.size w c := h.trans (k.mono h.size)
end

def A0 : Led := ⟨0, 0, 10, 0, 0, 0, 0, 0, 0⟩
def A1 : Led := ⟨0, 0, 10, 0, 8, 8, 0, 0, 0⟩
def A2 : Led := ⟨0, 0, 10, 0, 8, 8, 0, 2, 3⟩
def A4 : Led := ⟨0, 0, 10, 0, 0, 8, 0, 2, 3⟩
theorem A0.ok : A0.Ok := by constructor <;> decide
theorem A1.ok : A1.Ok := by constructor <;> decide
theorem A2.ok : A2.Ok := by constructor <;> decide

theorem ea1 : A0.take 8 = (A1, true) := rfl
theorem ea2 : A1.take 3 = (A2, false) := rfl
theorem ea3 : A2.take 1 = (A2, false) := rfl
theorem ea4 : A2.give 8 = (A4, true) := rfl
theorem ea5 : (if A4.reason = 0 then 0 else A4.reason) = 2 := rfl
theorem ea6 : (if A4.reason = 0 then 0 else A4.asked) = 3 := rfl
theorem ea7 : decide (A4.reason ≠ 0) = true := rfl
theorem ea8 : A4.peak = 8 := rfl
theorem ea0 : Led.new 0 0 10 0 = A0 := rfl
end Go.Proofs.YtakhobmoalfaoaaDoor
namespace Go.Proofs.YtakhobmoalfaoaaDoor
open Go.RowKit
set_option linter.unusedVariables false

structure Turn (S : List Nat) (w w' : World) : Prop where
  os : w'.os = w.os
  tape : w'.tape = w.tape
  output : w'.output = w.output
  size : w.heap.size ≤ w'.heap.size
  block : ∀ i, i < w.heap.size → i ∉ S → w'.heap[i]? = w.heap[i]?

section
variable {S S' : List Nat} {w w' a b c : World} {g : Nat} {t : TypeId} {cs : Array Value}
theorem Turn.refl (S : List Nat) (w : World) : Turn S w w := ⟨rfl, rfl, rfl, Nat.le_refl _, fun _ _ _ => rfl⟩
theorem Turn.of_grown (h : w.grownBy w' (some g)) (hg : g ∈ S) : Turn S w w' := ⟨h.os, h.tape, h.output, h.size, fun i hi hn => h.block i hi (fun e => hn (by injection e with e; exact e ▸ hg))⟩
theorem Turn.of_none {row : Option Nat} (h : w.grownBy w' row) (hr : ∀ k, row = some k → w.heap.size ≤ k) : Turn S w w' := ⟨h.os, h.tape, h.output, h.size, fun i hi hn => h.block i hi (fun e => by have := hr i e.symm; omega)⟩
theorem Turn.of_below (h : Below w.heap.size w w') : Turn S w w' := ⟨h.os, h.tape, h.output, h.size, fun i hi _ => h.block i hi⟩
theorem Turn.trans (h : Turn S a b) (k : Turn S b c) : Turn S a c := ⟨k.os.trans h.os, k.tape.trans h.tape, k.output.trans h.output, Nat.le_trans h.size k.size, fun i hi hn => (k.block i (Nat.lt_of_lt_of_le hi h.size) hn).trans (h.block i hi hn)⟩
theorem Turn.mono (h : Turn S a b) (hs : ∀ i ∈ S, i ∈ S' ∨ a.heap.size ≤ i) : Turn S' a b := ⟨h.os, h.tape, h.output, h.size, fun i hi hn => h.block i hi (fun e => (hs i e).elim hn (fun k => by omega))⟩
/-- behind an elder step: what is new to the elder world may turn -/
theorem Turn.next (h : Turn S a b) (k : Turn S' b c) (hs : ∀ i ∈ S', i ∈ S ∨ a.heap.size ≤ i) : Turn S a c :=
  ⟨k.os.trans h.os, k.tape.trans h.tape, k.output.trans h.output, Nat.le_trans h.size k.size, fun i hi hn => (k.block i (Nat.lt_of_lt_of_le hi h.size) (fun e => (hs i e).elim hn (fun m => by omega))).trans (h.block i hi hn)⟩
theorem Turn.drew (h : Turn S a w) : Turn S a w.drew := ⟨h.os, h.tape, h.output, h.size, h.block⟩
theorem Turn.drewN (h : Turn S a w) (n : Nat) : Turn S a (w.drewN n) := ⟨h.os, h.tape, h.output, h.size, h.block⟩
theorem Turn.alloc (h : Turn S a w) (o : Obj) : Turn S a (w.alloc o) :=
  ⟨h.os, h.tape, h.output, Nat.le_trans h.size (by simp), fun i hi hne => (Below.heap_alloc w o i (Nat.lt_of_lt_of_le hi h.size)).trans (h.block i hi hne)⟩
theorem Turn.set_ (h : Turn S a w) (i : Nat) (u : Value) (hg : g ∈ S ∨ a.heap.size ≤ g) : Turn S a (w.setCell ⟨g, i, none⟩ u) :=
  ⟨h.os, h.tape, h.output, by simpa [World.setCell] using h.size, fun j hi hne => (Below.heap_setCell w _ u j (by rintro rfl; exact hg.elim hne (fun k => absurd hi (by simp; omega)))).trans (h.block j hi hne)⟩
theorem Turn.below {B : Nat} (h : Turn S a b) (hs : ∀ i ∈ S, B ≤ i) (hB : B ≤ a.heap.size) : Below B a b :=
  ⟨h.os, h.tape, h.output, h.size, fun i hi => h.block i (by omega) (fun e => by have := hs i e; omega)⟩
theorem Blk.turn (h : Blk w g t cs) (k : Turn S w w') (hn : g ∉ S) : Blk w' g t cs := (k.block g h.lt hn).trans h
theorem Turn.cell (h : Turn S w w') {i : Nat} (hi : i < w.heap.size) (hn : i ∉ S) (o : Nat) : w'.cell? ⟨i, o, none⟩ = w.cell? ⟨i, o, none⟩ := World.cell?_of_block (h.block i hi hn)
/-- a step of new blocks behind a step that only made memory -/
theorem Turn.belowNext {B : Nat} (h : Below B a b) (k : Turn S b c) (hs : ∀ i ∈ S, B ≤ i) (hB : B ≤ b.heap.size) : Below B a c := h.trans (k.below hs hB)
theorem not_mem_one {a b : Nat} (h : a ≠ b) : a ∉ [b] := by simpa using h
end
end Go.Proofs.YtakhobmoalfaoaaDoor
