/- The document's raster: New, Is. -/
import Derived.Test.YtfgcbhcfekonnaaCols
import Derived.Test.YtfgcbhcfekonnaaRas3
namespace Go.Proofs.Ytfgcbhcfekonnaa
open Go.RowKit
set_option linter.unusedVariables false
set_option linter.unusedSimpArgs false

def refC (W H : Int) (q n c : Nat) (o : Bool) : Array Value := #[.int .i64 W, .int .i64 H, .slice (some ⟨q, 0, none⟩) n c, .bool o]
def refZ : Array Value := #[.int .i64 0, .int .i64 0, .slice none 0 0, .bool false]
def RB (w : World) (k : Nat) (W H : Int) (q n c : Nat) (o : Bool) : Prop := Blk w k 34 (refC W H q n c o)
section
variable {w : World} {k q n c : Nat} {W H : Int} {o : Bool}
theorem RB.c0 (h : RB w k W H q n c o) : w.cell? ⟨k, 0, none⟩ = some (.int .i64 W) := Blk.cell h 0
theorem RB.c1 (h : RB w k W H q n c o) : w.cell? ⟨k, 1, none⟩ = some (.int .i64 H) := Blk.cell h 1
theorem RB.c2 (h : RB w k W H q n c o) : w.cell? ⟨k, 2, none⟩ = some (.slice (some ⟨q, 0, none⟩) n c) := Blk.cell h 2
theorem RB.c3 (h : RB w k W H q n c o) : w.cell? ⟨k, 3, none⟩ = some (.bool o) := Blk.cell h 3
end
theorem QAt.below' {w w' : World} {b off : Nat} {C : List Qc} (h : QAt w b off C) (hb : Below w.heap.size w w') : QAt w' b off C := fun i q hi => by
  obtain ⟨h0, h1, h2, h3⟩ := h i q hi
  have hl := World.block_lt_of_cell? w _ h0
  exact ⟨(hb.cell (p := ⟨b, off + i * 4, none⟩) hl).trans h0, (hb.cell (p := ⟨b, off + i * 4 + 1, none⟩) hl).trans h1, (hb.cell (p := ⟨b, off + i * 4 + 2, none⟩) hl).trans h2, (hb.cell (p := ⟨b, off + i * 4 + 3, none⟩) hl).trans h3⟩
def q0 : Qc := ⟨0, 0, 0, 0⟩
theorem made_q (n : Nat) (i j : Nat) (hi : i < n) (hj : j < 4) : (madeCells #[.int .u8 0, .int .u8 0, .int .u8 0, .int .u8 0] (n * 4))[i * 4 + j]? = some (.int .u8 0) := by
  unfold madeCells
  rw [Array.getElem?_map, Array.getElem?_range]
  have h : i * 4 + j < n * 4 := by omega
  simp only [h, if_pos, Option.map_some]
  have hm : (i * 4 + j) % 4 = j := by omega
  simp only [List.size_toArray, List.length_cons, List.length_nil, Nat.zero_add, Nat.reduceAdd, hm]
  match j, hj with
  | 0, _ => rfl
  | 1, _ => rfl
  | 2, _ => rfl
  | 3, _ => rfl
theorem q_made (w : World) (n : Nat) : QAt (w.alloc (.cells (madeCells #[.int .u8 0, .int .u8 0, .int .u8 0, .int .u8 0] (n * 4)) 39)) w.heap.size 0 (List.replicate n q0) := fun i q hi => by
  have hin : i < n := by have := (List.getElem?_eq_some_iff.1 hi).1; simpa using this
  have hq : q = q0 := by rw [List.getElem?_replicate, if_pos hin] at hi; exact (Option.some.inj hi).symm
  subst hq
  rw [Nat.zero_add]
  exact ⟨(cell_new _ _ _ _ _ rfl).trans (made_q n i 0 hin (by omega)), (cell_new _ _ _ _ _ rfl).trans (made_q n i 1 hin (by omega)), (cell_new _ _ _ _ _ rfl).trans (made_q n i 2 hin (by omega)), (cell_new _ _ _ _ _ rfl).trans (made_q n i 3 hin (by omega))⟩
theorem prod3_in {m s p : Nat} (h : m * s = p) (hp : p ≤ 4294967296) : IntKind.i64.wrap ((m : Int) * (s : Int)) = (p : Int) := by
  have e : (m : Int) * (s : Int) = (p : Int) := by rw [← h]; exact (Int.natCast_mul m s).symm
  rw [e]
  exact IntWalk.i64_in _ (by omega)
set_option maxRecDepth 100000 in
theorem refNew7 {w : World} {W H n : Nat} (hn : W * H = n) (hW : W ≤ 16384) (hH : H ≤ 16384) :
    Calls Try.prog 13 #[.int .i64 (W : Int), .int .i64 (H : Int)] w fun e w' => ∃ q, e = .returned (.agg (refC (W : Int) (H : Int) q n n true)) ∧ QAt w' q 0 (List.replicate n q0) ∧ w.heap.size ≤ q ∧ Below w.heap.size w w' := by
  have hnb : n ≤ 16384 * 16384 := by rw [← hn]; exact Nat.mul_le_mul hW hH
  have HP := prod3_in hn (by omega)
  obtain ⟨i0, hi, hz0, hz1, hz2⟩ := info_parts infoQ
  have hmk : ∀ w : World, (Instr.makeSlice 32 (.int .i64 (n : Int)) (.int .i64 (n : Int))).run Try.prog w = .ok (.slice (some ⟨w.heap.size, 0, none⟩) n n) (w.alloc (.cells (madeCells #[.int .u8 0, .int .u8 0, .int .u8 0, .int .u8 0] (n * 4)) 39)) := fun w => by
    have := run_make w 32 39 i0 _ Try.underlying32 hi hz0 .i64 .i64 (n : Int) (n : Int) (by omega) (Int.le_refl _) (by rw [hz2]; omega) (by omega)
    rw [hz1, show (Value.agg #[.int .u8 0, .int .u8 0, .int .u8 0, .int .u8 0]).cells = #[.int .u8 0, .int .u8 0, .int .u8 0, .int .u8 0] from rfl] at this
    simpa using this
  clear hn hi hz0 hz1 hz2
  go_enter Try.func13, Try.ntmps13
  go_wp2_with fail
  have R1 : RB ((w.alloc (.cells #[.int .i64 (W : Int), .int .i64 (H : Int), .slice (some ⟨w.heap.size + 1, 0, none⟩) n n, .bool true] 34)).alloc (.cells (madeCells #[.int .u8 0, .int .u8 0, .int .u8 0, .int .u8 0] (n * 4)) 39)) w.heap.size (W : Int) (H : Int) (w.heap.size + 1) n n true := (Blk.new _ _ _).alloc _
  have Q1 : QAt ((w.alloc (.cells #[.int .i64 (W : Int), .int .i64 (H : Int), .slice (some ⟨w.heap.size + 1, 0, none⟩) n n, .bool true] 34)).alloc (.cells (madeCells #[.int .u8 0, .int .u8 0, .int .u8 0, .int .u8 0] (n * 4)) 39)) (w.heap.size + 1) 0 (List.replicate n q0) := by
    have := q_made (w.alloc (.cells #[.int .i64 (W : Int), .int .i64 (H : Int), .slice (some ⟨w.heap.size + 1, 0, none⟩) n n, .bool true] 34)) n
    rwa [show (w.alloc (.cells #[.int .i64 (W : Int), .int .i64 (H : Int), .slice (some ⟨w.heap.size + 1, 0, none⟩) n n, .bool true] 34)).heap.size = w.heap.size + 1 by simp] at this
  have T1 : Below w.heap.size w ((w.alloc (.cells #[.int .i64 (W : Int), .int .i64 (H : Int), .slice (some ⟨w.heap.size + 1, 0, none⟩) n n, .bool true] 34)).alloc (.cells (madeCells #[.int .u8 0, .int .u8 0, .int .u8 0, .int .u8 0] (n * 4)) 39)) := ((Below.refl _ _).alloc (Nat.le_refl _) _).alloc (by simp) _
  change bodyPost _ _ _ _ _ ((w.alloc (.cells #[.int .i64 (W : Int), .int .i64 (H : Int), .slice (some ⟨w.heap.size + 1, 0, none⟩) n n, .bool true] 34)).alloc (.cells (madeCells #[.int .u8 0, .int .u8 0, .int .u8 0, .int .u8 0] (n * 4)) 39))
  generalize ((w.alloc (.cells #[.int .i64 (W : Int), .int .i64 (H : Int), .slice (some ⟨w.heap.size + 1, 0, none⟩) n n, .bool true] 34)).alloc (.cells (madeCells #[.int .u8 0, .int .u8 0, .int .u8 0, .int .u8 0] (n * 4)) 39)) = we at R1 Q1 T1 ⊢
  have r0 := R1.c0
  have r1 := R1.c1
  have r2 := R1.c2
  have r3 := R1.c3
  exact bodyPost_ret (v := .agg (refC (W : Int) (H : Int) (w.heap.size + 1) n n true)) (by simp [results, Try.results13, go_sem, r0, r1, r2, r3, refC]) rfl ⟨_, rfl, Q1, by omega, T1⟩
/-- is there such a pixel? -/
def IsP (W H : Int) (o : Bool) (X Y : Int) : Prop := o = true ∧ 0 ≤ X ∧ X < W ∧ 0 ≤ Y ∧ Y < H
theorem refIs_yes {W H X Y : Int} {q n c : Nat} (h : IsP W H true X Y) (w : World) :
    Calls Try.prog 43 #[.agg (refC W H q n c true), .int .i64 X, .int .i64 Y] w fun e w' => e = .returned (.bool true) ∧ Below w.heap.size w w' := by
  obtain ⟨_, h1, h2, h3, h4⟩ := h
  unfold refC
  go_enter Try.func43, Try.ntmps43
  go_wp2_with fail
  go_ret
  exact ⟨rfl, (Below.refl _ _).alloc (Nat.le_refl _) _⟩
theorem refIs_no {W H X Y : Int} {q n c : Nat} {o : Bool} (h : ¬ IsP W H o X Y) (w : World) :
    Calls Try.prog 43 #[.agg (refC W H q n c o), .int .i64 X, .int .i64 Y] w fun e w' => e = .returned (.bool false) ∧ Below w.heap.size w w' := by
  unfold refC
  cases o
  · clear h
    go_enter Try.func43, Try.ntmps43
    go_wp2_with fail
    go_ret
    exact ⟨rfl, (Below.refl _ _).alloc (Nat.le_refl _) _⟩
  by_cases x0 : X < 0
  · clear h
    go_enter Try.func43, Try.ntmps43
    go_wp2_with fail
    go_ret
    exact ⟨rfl, (Below.refl _ _).alloc (Nat.le_refl _) _⟩
  by_cases x1 : W ≤ X
  · clear h
    go_enter Try.func43, Try.ntmps43
    go_wp2_with fail
    go_ret
    exact ⟨rfl, (Below.refl _ _).alloc (Nat.le_refl _) _⟩
  by_cases y0 : Y < 0
  · clear h
    go_enter Try.func43, Try.ntmps43
    go_wp2_with fail
    go_ret
    exact ⟨rfl, (Below.refl _ _).alloc (Nat.le_refl _) _⟩
  have y1 : H ≤ Y := Int.not_lt.1 fun q => h ⟨rfl, by omega, by omega, by omega, q⟩
  clear h
  go_enter Try.func43, Try.ntmps43
  go_wp2_with fail
  go_ret
  exact ⟨ret1 (vbool (decide_eq_false (by omega))), (Below.refl _ _).alloc (Nat.le_refl _) _⟩
end Go.Proofs.Ytfgcbhcfekonnaa
