/- Writing PNM: the document's bits, row by row. -/
import Derived.Test.YthljhebbblhakaaGreatDoorEPnmWg
namespace Go.Proofs.YthljhebbblhakaaGreatDoor
open Go.RowKit
set_option linter.unusedVariables false
set_option linter.unusedSimpArgs false

/-- the bits of a byte that isn't whole -/
def v4 (L : List Qc) (x : Nat) : Nat := pk4 (L.take x) (x / 8) / 2 ^ (8 - x % 8)
theorem v4_start {L : List Qc} {x : Nat} (h : x % 8 = 0) : v4 L x = 0 := by
  unfold v4
  rw [h]
  exact Nat.div_eq_of_lt (pk4_lt _ _)
theorem v4_back (L : List Qc) (x : Nat) : v4 L x * 2 ^ (8 - x % 8) = pk4 (L.take x) (x / 8) := by
  unfold v4
  exact Nat.div_mul_cancel (Nat.dvd_of_mod_eq_zero (pk4_low L x))
theorem v4_le (L : List Qc) (x : Nat) : v4 L x ≤ 127 := by
  have h1 := v4_back L x
  have h2 := pk4_lt (L.take x) (x / 8)
  have h3 : 2 ≤ 2 ^ (8 - x % 8) := by
    have hk : x % 8 = 0 ∨ x % 8 = 1 ∨ x % 8 = 2 ∨ x % 8 = 3 ∨ x % 8 = 4 ∨ x % 8 = 5 ∨ x % 8 = 6 ∨ x % 8 = 7 := by omega
    rcases hk with hk | hk | hk | hk | hk | hk | hk | hk <;> rw [hk] <;> decide
  have h4 : v4 L x * 2 ≤ v4 L x * 2 ^ (8 - x % 8) := Nat.mul_le_mul (Nat.le_refl _) h3
  omega
theorem v4_next {L : List Qc} {x : Nat} (h : x % 8 ≠ 7) : v4 L (x + 1) = 2 * v4 L x + bit4 L x := by
  have h1 := v4_back L x
  obtain ⟨h2, _⟩ := pk4_next L x
  have hv : v4 L (x + 1) = pk4 (L.take (x + 1)) (x / 8) / 2 ^ (7 - x % 8) := by
    unfold v4
    rw [show (x + 1) / 8 = x / 8 by omega, show 8 - (x + 1) % 8 = 7 - x % 8 by omega]
  rw [hv, h2, ← h1, show 8 - x % 8 = (7 - x % 8) + 1 by omega, Nat.pow_succ]
  have hp : 0 < 2 ^ (7 - x % 8) := Nat.two_pow_pos _
  generalize 2 ^ (7 - x % 8) = p at hp ⊢
  rw [show v4 L x * (p * 2) + bit4 L x * p = (2 * v4 L x + bit4 L x) * p by rw [Nat.add_mul, Nat.mul_comm p 2, ← Nat.mul_assoc, Nat.mul_comm (v4 L x) 2]]
  exact Nat.mul_div_cancel _ hp
theorem v4_whole {L : List Qc} {x : Nat} (h : x % 8 = 7) : pk4 (L.take (x + 1)) (x / 8) = 2 * v4 L x + bit4 L x := by
  have h1 := v4_back L x
  obtain ⟨h2, _⟩ := pk4_next L x
  rw [h2, ← h1, h]
  simp only [Nat.reduceSub, Nat.reducePow]
  omega
def full4 (L : List Qc) (x : Nat) : List UInt8 := (List.range (x / 8)).map fun j => UInt8.ofNat (pk4 (L.take x) j)
theorem full4_len (L : List Qc) (x : Nat) : (full4 L x).length = x / 8 := by unfold full4; simp
theorem full4_same {L : List Qc} {x : Nat} (h : x % 8 ≠ 7) : full4 L (x + 1) = full4 L x := by
  obtain ⟨_, h2⟩ := pk4_next L x
  unfold full4
  rw [show (x + 1) / 8 = x / 8 by omega]
  refine List.map_congr_left fun j hj => ?_
  have := List.mem_range.1 hj
  rw [h2 j (by omega)]
theorem full4_more {L : List Qc} {x : Nat} (h : x % 8 = 7) : full4 L (x + 1) = full4 L x ++ [UInt8.ofNat (2 * v4 L x + bit4 L x)] := by
  obtain ⟨_, h2⟩ := pk4_next L x
  unfold full4
  rw [show (x + 1) / 8 = x / 8 + 1 by omega, List.range_succ, List.map_append]
  simp only [List.map_cons, List.map_nil]
  rw [v4_whole h]
  congr 1
  refine List.map_congr_left fun j hj => ?_
  have := List.mem_range.1 hj
  rw [h2 j (by omega)]
theorem full4_end {L : List Qc} {x : Nat} (hx : L.length = x) (h : x % 8 = 0) : full4 L x = row4B L := by
  unfold full4 row4B
  rw [hx, show (x + 7) / 8 = x / 8 by omega, List.take_of_length_le (by omega)]
theorem full4_rest {L : List Qc} {x : Nat} (hx : L.length = x) (h : x % 8 ≠ 0) : full4 L x ++ [UInt8.ofNat (v4 L x * 2 ^ (8 - x % 8))] = row4B L := by
  rw [v4_back]
  unfold full4 row4B
  rw [hx, show (x + 7) / 8 = x / 8 + 1 by omega, List.range_succ, List.map_append]
  simp only [List.map_cons, List.map_nil]
  rw [List.take_of_length_le (by omega)]
/-- a row's pixels as bytes, up to one of them -/
def pxs (K : Nat) (L : List Qc) (x : Nat) : List UInt8 := ((L.take x).map (pxB K)).flatten
theorem pxs_zero (K : Nat) (L : List Qc) : pxs K L 0 = [] := by unfold pxs; simp
theorem full4_zero (L : List Qc) : full4 L 0 = [] := by unfold full4; simp
theorem pxs_more {K : Nat} {L : List Qc} {x : Nat} {q : Qc} (h : L[x]? = some q) : pxs K L (x + 1) = pxs K L x ++ pxB K q := by
  unfold pxs
  rw [List.take_add_one, h]
  simp
theorem pxs_end {K : Nat} {L : List Qc} {x : Nat} (hx : L.length = x) (hK : K = 5 ∨ K = 6) : pxs K L x = encRow K L := by
  unfold pxs encRow
  rw [if_neg (by omega), if_neg (by omega), List.take_of_length_le (by omega)]
theorem pxs_len (K : Nat) (L : List Qc) : ∀ x, (pxs K L x).length ≤ 3 * x := by
  intro x
  have h : ∀ (M : List Qc), ((M.map (pxB K)).flatten).length ≤ 3 * M.length := by
    intro M
    induction M with
    | nil => simp
    | cons x M ih =>
      rw [List.map_cons, List.flatten_cons, List.length_append, List.length_cons]
      have : (pxB K x).length ≤ 3 := by unfold pxB; split <;> simp
      omega
  have h1 := h (L.take x)
  have h2 : (L.take x).length ≤ x := by rw [List.length_take]; omega
  unfold pxs
  omega
theorem row_at {l : List UInt8} {W y x : Nat} (hx : x < W) : (rowOf l W y)[x]? = some (pcAt l (y * W + x)) := by unfold rowOf; simp [hx]
theorem bit_of {L : List Qc} {x : Nat} {q : Qc} (h : L[x]? = some q) (hm : mayB 4 q = true) : (q.r.toNat : Int) / 255 = ((1 - bit4 L x : Nat) : Int) := by
  have hq := (mayB_iff.1 hm).2.2 (Or.inr rfl)
  unfold bit4
  rw [h]
  rcases hq with hq | hq
  · simp only [hq]; decide
  · simp only [hq]; decide
theorem cellsW_new {w : World} {cs : Array Value} {ty : TypeId} {r : List UInt8} (h : cs.toList = C8 r) (j : Nat) (b : UInt8) (hj : r[j]? = some b) : (w.alloc (.cells cs ty)).cell? ⟨w.heap.size, j, none⟩ = some (.int .u8 (b.toNat : Int)) := by
  rw [cell_new _ _ _ _ _ rfl, ← Array.getElem?_toList, h]
  unfold C8
  rw [List.getElem?_map, hj]
  rfl
theorem enc_small2 {K W H y : Nat} {l : List UInt8} (hK : K = 4 ∨ K = 5 ∨ K = 6) (hW : W ≤ 4000) (hH : H ≤ 4000) : (hdrL K W H ++ encRows K ((rowsOf l W H).take y)).length < 100000000 := by
  have h2 := encRows_len (W := W) hK ((rowsOf l W H).take y) (fun r hr => by
    obtain ⟨z, _, rfl⟩ := List.mem_map.1 (List.mem_of_mem_take hr)
    exact rowOf_len l W z)
  have h3 : ((rowsOf l W H).take y).length ≤ 4000 := by
    rw [List.length_take]
    unfold rowsOf
    simp
    omega
  have h4 : ((rowsOf l W H).take y).length * (3 * W + 1) ≤ 4000 * 12001 := Nat.mul_le_mul h3 (by omega)
  have h5 := hdr_len K W H
  have h6 := dec_size' W
  have h7 := dec_size' H
  have h8 : (dN W).length ≤ W + 1 := by rw [dg_len]; exact h6
  have h9 : (dN H).length ≤ H + 1 := by rw [dg_len]; exact h7
  rw [List.length_append, h5]
  split <;> omega
section
variable {w0 w w' : World} {W H n c B0 : Nat} {a : Option Addr} {v : Value} {bs : List UInt8}
theorem RwI.alloc (h : RwI w0 w W H n c a B0 v bs) (x : Obj) : RwI w0 (w.alloc x) W H n c a B0 v bs := h.below ((Below.refl _ _).alloc (Nat.le_refl _) _)
theorem RwI.next {v' : Value} {bs' : List UInt8} (h : RwI w0 w W H n c a B0 v bs) (hB : w0.heap.size < B0) (o : OwnsM w' B0 v' bs') (b : Below B0 w w') : RwI w0 w' W H n c a B0 v' bs' := ⟨o, Blk.below h.I b hB, h.B.trans (b.mono (Nat.le_of_lt hB))⟩
theorem RwI.hs (h : RwI w0 w W H n c a B0 v bs) : B0 ≤ w.heap.size := h.O.size
end
end Go.Proofs.YthljhebbblhakaaGreatDoor
