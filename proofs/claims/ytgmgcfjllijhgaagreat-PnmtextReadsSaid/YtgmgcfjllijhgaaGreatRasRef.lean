/- The document's raster: New, Is. The document's raster: Flip. The document's raster: Set. -/
import Derived.Test.YtgmgcfjllijhgaaGreatCols
import Derived.Test.YtgmgcfjllijhgaaGreatRas
namespace Go.Proofs.YtgmgcfjllijhgaaGreat
open Go.RowKit
set_option linter.unusedVariables false
set_option linter.unusedSimpArgs false

def refC (W H : Int) (q n c : Nat) (o : Bool) : Array Value := #[.int .i64 W, .int .i64 H, .slice (some ⟨q, 0, none⟩) n c, .bool o]
def refZ : Array Value := #[.int .i64 0, .int .i64 0, .slice none 0 0, .bool false]
section
variable {w : World} {k q n c : Nat} {W H : Int} {o : Bool}
end
theorem QAt.below' {w w' : World} {b off : Nat} {C : List Qc} (h : QAt w b off C) (hb : Below w.heap.size w w') : QAt w' b off C := fun i q hi => by
  obtain ⟨h0, h1, h2, h3⟩ := h i q hi
  have hl := World.block_lt_of_cell? w _ h0
  exact ⟨(hb.cell (p := ⟨b, off + i * 4, none⟩) hl).trans h0, (hb.cell (p := ⟨b, off + i * 4 + 1, none⟩) hl).trans h1, (hb.cell (p := ⟨b, off + i * 4 + 2, none⟩) hl).trans h2, (hb.cell (p := ⟨b, off + i * 4 + 3, none⟩) hl).trans h3⟩
def q0 : Qc := ⟨0, 0, 0, 0⟩
theorem made_q (n : Nat) (i j : Nat) (hi : i < n) (hj : j < 4) : (madeCells #[.int .u8 0, .int .u8 0, .int .u8 0, .int .u8 0] (n * 4))[i * 4 + j]? = some (.int .u8 0) := by
  unfold madeCells
  rw [Array.getElem?_map, Array.getElem?_range]
  have h : i * 4 + j < n * 4 := by omega
  simp only [h, if_pos, Option.map_some]
  have hm : (i * 4 + j) % 4 = j := by omega
  simp only [List.size_toArray, List.length_cons, List.length_nil, Nat.zero_add, Nat.reduceAdd, hm]
  match j, hj with
  | 0, _ => rfl
  | 1, _ => rfl
  | 2, _ => rfl
  | 3, _ => rfl
theorem q_made (w : World) (n : Nat) : QAt (w.alloc (.cells (madeCells #[.int .u8 0, .int .u8 0, .int .u8 0, .int .u8 0] (n * 4)) 59)) w.heap.size 0 (List.replicate n q0) := fun i q hi => by
  have hin : i < n := by have := (List.getElem?_eq_some_iff.1 hi).1; simpa using this
  have hq : q = q0 := by rw [List.getElem?_replicate, if_pos hin] at hi; exact (Option.some.inj hi).symm
  subst hq
  rw [Nat.zero_add]
  exact ⟨(cell_new _ _ _ _ _ rfl).trans (made_q n i 0 hin (by omega)), (cell_new _ _ _ _ _ rfl).trans (made_q n i 1 hin (by omega)), (cell_new _ _ _ _ _ rfl).trans (made_q n i 2 hin (by omega)), (cell_new _ _ _ _ _ rfl).trans (made_q n i 3 hin (by omega))⟩
theorem prod3_in {m s p : Nat} (h : m * s = p) (hp : p ≤ 4294967296) : IntKind.i64.wrap ((m : Int) * (s : Int)) = (p : Int) := by
  have e : (m : Int) * (s : Int) = (p : Int) := by rw [← h]; exact (Int.natCast_mul m s).symm
  rw [e]
  exact IntWalk.i64_in _ (by omega)
/-- is there such a pixel? -/
def IsP (W H : Int) (o : Bool) (X Y : Int) : Prop := o = true ∧ 0 ≤ X ∧ X < W ∧ 0 ≤ Y ∧ Y < H
end Go.Proofs.YtgmgcfjllijhgaaGreat
namespace Go.Proofs.YtgmgcfjllijhgaaGreat
open Go.RowKit
set_option linter.unusedVariables false
set_option linter.unusedSimpArgs false

/-- where the k-th pixel comes from -/
def flipK (W H : Nat) (rows : Bool) (k : Nat) : Nat := if rows then (H - 1 - k / W) * W + k % W else k / W * W + (W - 1 - k % W)
def flipQ (L : List Qc) (W H : Nat) (rows : Bool) (j : Nat) : List Qc := (List.range j).map fun k => L.getD (flipK W H rows k) q0
theorem flipQ_succ (L : List Qc) (W H : Nat) (rows : Bool) (j : Nat) : flipQ L W H rows (j + 1) = flipQ L W H rows j ++ [L.getD (flipK W H rows j) q0] := by simp [flipQ, List.range_succ]
theorem flipQ_len (L : List Qc) (W H : Nat) (rows : Bool) (j : Nat) : (flipQ L W H rows j).length = j := by simp [flipQ]
theorem div_at {b W a : Nat} (h : a < W) : (b * W + a) / W = b ∧ (b * W + a) % W = a := by
  have hW : 0 < W := by omega
  exact ⟨by rw [Nat.mul_comm, Nat.mul_add_div hW, Nat.div_eq_of_lt h, Nat.add_zero], by rw [Nat.mul_comm, Nat.mul_add_mod, Nat.mod_eq_of_lt h]⟩
theorem row_in {r H n : Nat} (h : r < H) : r * n + n ≤ H * n := by
  have := Nat.mul_le_mul (show r + 1 ≤ H by omega) (Nat.le_refl n)
  rw [Nat.add_mul, Nat.one_mul] at this
  exact this
theorem OwnsQ.cap {w : World} {base g n c : Nat} {L : List Qc} (h : OwnsQ w base (.slice (some ⟨g, 0, none⟩) n c) L) : n ≤ c := by
  rcases h.2 with ⟨e, _⟩ | ⟨g', cap, cur, e, hb, hg, hc, _⟩
  · cases e
  · simp only [Value.slice.injEq, Option.some.injEq, Addr.mk.injEq] at e
    obtain ⟨_, rfl, rfl⟩ := e
    exact hc
end Go.Proofs.YtgmgcfjllijhgaaGreat
namespace Go.Proofs.YtgmgcfjllijhgaaGreat
open Go.RowKit
set_option linter.unusedVariables false
set_option linter.unusedSimpArgs false

theorem QAt.set {w : World} {g i : Nat} {cs : Array Value} {L : List Qc} {q : Qc} (hb : Blk w g 59 cs) (h : QAt w g 0 L) (hi : i < L.length) (hsz : i * 4 + 4 ≤ cs.size) :
    QAt ((((w.setCell ⟨g, i * 4, none⟩ (.int .u8 (q.r.toNat : Int))).setCell ⟨g, i * 4 + 1, none⟩ (.int .u8 (q.g.toNat : Int))).setCell ⟨g, i * 4 + 2, none⟩ (.int .u8 (q.b.toNat : Int))).setCell ⟨g, i * 4 + 3, none⟩ (.int .u8 (q.a.toNat : Int))) g 0 (L.set i q) := by
  have hb4 := (((hb.set_ (i * 4) (.int .u8 (q.r.toNat : Int))).set_ (i * 4 + 1) (.int .u8 (q.g.toNat : Int))).set_ (i * 4 + 2) (.int .u8 (q.b.toNat : Int))).set_ (i * 4 + 3) (.int .u8 (q.a.toNat : Int))
  intro j q' hj
  have hjl : j < L.length := by have := (List.getElem?_eq_some_iff.1 hj).1; simpa using this
  rw [Nat.zero_add]
  by_cases hji : j = i
  · subst hji
    have hq : q' = q := by
      rw [List.getElem?_set_self hjl] at hj
      exact (Option.some.inj hj).symm
    subst hq
    refine ⟨(Blk.cell hb4 _).trans ?_, (Blk.cell hb4 _).trans ?_, (Blk.cell hb4 _).trans ?_, (Blk.cell hb4 _).trans ?_⟩
    · rw [Array.getElem?_setIfInBounds_ne (by omega), Array.getElem?_setIfInBounds_ne (by omega), Array.getElem?_setIfInBounds_ne (by omega), Array.getElem?_setIfInBounds_self_of_lt (by omega)]
    · rw [Array.getElem?_setIfInBounds_ne (by omega), Array.getElem?_setIfInBounds_ne (by omega), Array.getElem?_setIfInBounds_self_of_lt (by rw [Array.size_setIfInBounds]; omega)]
    · rw [Array.getElem?_setIfInBounds_ne (by omega), Array.getElem?_setIfInBounds_self_of_lt (by simp only [Array.size_setIfInBounds]; omega)]
    · rw [Array.getElem?_setIfInBounds_self_of_lt (by simp only [Array.size_setIfInBounds]; omega)]
  · rw [List.getElem?_set_ne (Ne.symm hji)] at hj
    have hh := h j q' hj
    rw [Nat.zero_add] at hh
    have key : ∀ k, k < 4 → (((((cs.setIfInBounds (i * 4) (.int .u8 (q.r.toNat : Int))).setIfInBounds (i * 4 + 1) (.int .u8 (q.g.toNat : Int))).setIfInBounds (i * 4 + 2) (.int .u8 (q.b.toNat : Int))).setIfInBounds (i * 4 + 3) (.int .u8 (q.a.toNat : Int))))[j * 4 + k]? = cs[j * 4 + k]? := fun k hk => by
      rw [Array.getElem?_setIfInBounds_ne (by omega), Array.getElem?_setIfInBounds_ne (by omega), Array.getElem?_setIfInBounds_ne (by omega), Array.getElem?_setIfInBounds_ne (by omega)]
    refine ⟨(Blk.cell hb4 _).trans ((key 0 (by omega)).trans ((Blk.cell hb _).symm.trans hh.1)), (Blk.cell hb4 _).trans ((key 1 (by omega)).trans ((Blk.cell hb _).symm.trans hh.2.1)), (Blk.cell hb4 _).trans ((key 2 (by omega)).trans ((Blk.cell hb _).symm.trans hh.2.2.1)), (Blk.cell hb4 _).trans ((key 3 (by omega)).trans ((Blk.cell hb _).symm.trans hh.2.2.2))⟩
/-- the block of an owned row -/
theorem OwnsQ.blk {w : World} {base g n c : Nat} {L : List Qc} (h : OwnsQ w base (.slice (some ⟨g, 0, none⟩) n c) L) : base ≤ g ∧ n = L.length ∧ ∃ cs, Blk w g 59 cs ∧ L.length * 4 ≤ cs.size := by
  rcases h.2 with ⟨e, _⟩ | ⟨g', cap, cur, e, hb, hg, hc, hm, hs, ht⟩
  · cases e
  · simp only [Value.slice.injEq, Option.some.injEq, Addr.mk.injEq] at e
    obtain ⟨⟨rfl, _⟩, rfl, rfl⟩ := e
    exact ⟨hb, rfl, cur, hg, by rw [hs]; exact Nat.mul_le_mul hc (Nat.le_refl 4)⟩
theorem OwnsQ.some_ {w : World} {base n : Nat} {v : Value} {L M : List Qc} (h : OwnsQ w base v L) (hM : L = M) (hn : n = M.length) (hp : 0 < n) : ∃ g c, v = .slice (some ⟨g, 0, none⟩) n c ∧ OwnsQ w base (.slice (some ⟨g, 0, none⟩) n c) M := by
  subst hM
  subst hn
  rcases h.form with ⟨_, rfl⟩ | ⟨g, c, rfl, _⟩
  · simp at hp
  · exact ⟨g, c, rfl, h⟩
theorem QAt.far {w : World} {g k i : Nat} {u : Value} {L : List Qc} (h : QAt w g 0 L) (hk : g ≠ k) : QAt (w.setCell ⟨k, i, none⟩ u) g 0 L := fun j q hj => by
  obtain ⟨h0, h1, h2, h3⟩ := h j q hj
  have e : ∀ o, (w.setCell ⟨k, i, none⟩ u).cell? ⟨g, o, none⟩ = w.cell? ⟨g, o, none⟩ := fun o => World.cell?_of_block (Below.heap_setCell w ⟨k, i, none⟩ u g hk)
  exact ⟨(e _).trans h0, (e _).trans h1, (e _).trans h2, (e _).trans h3⟩
end Go.Proofs.YtgmgcfjllijhgaaGreat
