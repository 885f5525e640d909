/- Plain: stretches of bytes against each other; rows upside down; columns from left to right. -/
import Derived.Test.YtfgcbhcfekonnaaRas2
namespace Go.Proofs.Ytfgcbhcfekonnaa
set_option linter.unusedVariables false
set_option linter.unusedSimpArgs false

theorem over_get (l s : List UInt8) (i k : Nat) (h : i + s.length ≤ l.length) : (over l i s)[k]? = if i ≤ k ∧ k < i + s.length then s[k - i]? else l[k]? := by
  unfold over
  have e1 : (l.take i).length = i := by rw [List.length_take]; omega
  by_cases h1 : k < i
  · rw [if_neg (by omega), List.append_assoc, List.getElem?_append_left (by omega), List.getElem?_take_of_lt h1]
  · by_cases h2 : k < i + s.length
    · rw [if_pos ⟨by omega, h2⟩, List.getElem?_append_left (by rw [List.length_append, e1]; omega), List.getElem?_append_right (by omega), e1]
    · rw [if_neg (by omega), List.getElem?_append_right (by rw [List.length_append, e1]; omega), List.length_append, e1, List.getElem?_drop]
      congr 1
      omega
theorem cut_get (l : List UInt8) (a n k : Nat) (h : k < n) : ((l.drop a).take n)[k]? = l[a + k]? := by
  rw [List.getElem?_take_of_lt h, List.getElem?_drop]
theorem swapL_len (l : List UInt8) (a c n : Nat) (ha : a + n ≤ l.length) (hc : c + n ≤ l.length) : (swapL l a c n).length = l.length := by
  unfold swapL
  have e1 := cut_len ha
  have e2 := cut_len hc
  have e3 := over_len l a ((l.drop c).take n) (by rw [e2]; exact ha)
  rw [over_len _ _ _ (by rw [e1, e3]; exact hc), e3]
theorem swapL_get (l : List UInt8) (a c n k : Nat) (hac : a + n ≤ c) (hc : c + n ≤ l.length) : (swapL l a c n)[k]? = if a ≤ k ∧ k < a + n then l[c + (k - a)]? else if c ≤ k ∧ k < c + n then l[a + (k - c)]? else l[k]? := by
  have ha : a + n ≤ l.length := by omega
  have e1 := cut_len ha
  have e2 := cut_len hc
  have e3 := over_len l a ((l.drop c).take n) (by rw [e2]; exact ha)
  unfold swapL
  rw [over_get _ _ _ _ (by rw [e1, e3]; exact hc), e1, over_get _ _ _ _ (by rw [e2]; exact ha), e2]
  by_cases h1 : a ≤ k ∧ k < a + n
  · rw [if_neg (by omega), if_pos h1, if_pos h1, cut_get _ _ _ _ (by omega)]
  · by_cases h2 : c ≤ k ∧ k < c + n
    · rw [if_pos h2, if_neg h1, if_pos h2, cut_get _ _ _ _ (by omega)]
    · rw [if_neg h2, if_neg h1, if_neg h1, if_neg h2]
/-- another stretch's place is not in this one -/
theorem out_of {r j n o : Nat} (h : r ≠ j) (ho : o < n) : ¬ (j * n ≤ r * n + o ∧ r * n + o < j * n + n) := by
  intro ⟨h1, h2⟩
  rcases Nat.lt_or_gt_of_ne h with q | q
  · have := Nat.mul_le_mul (show r + 1 ≤ j by omega) (Nat.le_refl n)
    rw [Nat.add_mul, Nat.one_mul] at this
    omega
  · have := Nat.mul_le_mul (show j + 1 ≤ r by omega) (Nat.le_refl n)
    rw [Nat.add_mul, Nat.one_mul] at this
    omega
theorem row_fits {r H n : Nat} (h : r < H) : r * n + n ≤ H * n := by
  have := Nat.mul_le_mul (show r + 1 ≤ H by omega) (Nat.le_refl n)
  rw [Nat.add_mul, Nat.one_mul] at this
  exact this
/-- j rows from above, and from below, have changed places; of n bytes each -/
structure RowsInv (l m : List UInt8) (n H j : Nat) : Prop where
  len : m.length = l.length
  at_ : ∀ r o, r < H → o < n → m[r * n + o]? = if r < j ∨ H - j ≤ r then l[(H - 1 - r) * n + o]? else l[r * n + o]?
theorem rows_zero (l : List UInt8) (n H : Nat) : RowsInv l l n H 0 := ⟨rfl, fun r o hr ho => by rw [if_neg (by omega)]⟩
theorem rows_step {l m : List UInt8} {n H j : Nat} (h : RowsInv l m n H j) (hl : l.length = H * n) (hj : j < H / 2) : RowsInv l (swapL m (j * n) ((H - 1 - j) * n) n) n H (j + 1) := by
  have hc : (H - 1 - j) * n + n ≤ m.length := by rw [h.len, hl]; exact row_fits (by omega)
  have hac : j * n + n ≤ (H - 1 - j) * n := by
    have := Nat.mul_le_mul (show j + 1 ≤ H - 1 - j by omega) (Nat.le_refl n)
    rw [Nat.add_mul, Nat.one_mul] at this
    exact this
  refine ⟨by rw [swapL_len _ _ _ _ (by omega) hc, h.len], fun r o hr ho => ?_⟩
  rw [swapL_get _ _ _ _ _ hac hc]
  by_cases h1 : r = j
  · subst h1
    rw [if_pos ⟨by omega, by omega⟩, if_pos (.inl (by omega)), show (H - 1 - r) * n + (r * n + o - r * n) = (H - 1 - r) * n + o by omega, h.at_ _ _ (by omega) ho, if_neg (by omega)]
  · rw [if_neg (out_of h1 ho)]
    by_cases h2 : r = H - 1 - j
    · subst h2
      rw [if_pos ⟨by omega, by omega⟩, if_pos (.inr (by omega)), show j * n + ((H - 1 - j) * n + o - (H - 1 - j) * n) = j * n + o by omega, h.at_ _ _ (by omega) ho, if_neg (by omega), show H - 1 - (H - 1 - j) = j by omega]
    · rw [if_neg (out_of h2 ho), h.at_ _ _ hr ho]
      by_cases h3 : r < j ∨ H - j ≤ r
      · rw [if_pos h3, if_pos (by omega)]
      · rw [if_neg h3, if_neg (by omega)]
theorem rows_end {l m : List UInt8} {n H : Nat} (h : RowsInv l m n H (H / 2)) (r o : Nat) (hr : r < H) (ho : o < n) : m[r * n + o]? = l[(H - 1 - r) * n + o]? := by
  rw [h.at_ r o hr ho]
  by_cases h1 : r < H / 2 ∨ H - H / 2 ≤ r
  · rw [if_pos h1]
  · rw [if_neg h1, show H - 1 - r = r by omega]
/-- in the rows above y, and in row y x columns from the left and from the right, have changed places -/
structure ColsInv (l m : List UInt8) (W H y x : Nat) : Prop where
  len : m.length = l.length
  at_ : ∀ r c o, r < H → c < W → o < 4 → m[(r * W + c) * 4 + o]? = if r < y ∨ r = y ∧ (c < x ∨ W - x ≤ c) then l[(r * W + (W - 1 - c)) * 4 + o]? else l[(r * W + c) * 4 + o]?
theorem cols_zero (l : List UInt8) (W H : Nat) : ColsInv l l W H 0 0 := ⟨rfl, fun r c o hr hc ho => by rw [if_neg (by omega)]⟩
theorem cols_step {l m : List UInt8} {W H y x : Nat} (h : ColsInv l m W H y x) (hl : l.length = H * W * 4) (hy : y < H) (hx : x < W / 2) : ColsInv l (swapL m ((y * W + x) * 4) ((y * W + (W - 1 - x)) * 4) 4) W H y (x + 1) := by
  have hW := row_fits (n := W) hy
  have hc : (y * W + (W - 1 - x)) * 4 + 4 ≤ m.length := by rw [h.len, hl]; omega
  have hac : (y * W + x) * 4 + 4 ≤ (y * W + (W - 1 - x)) * 4 := by omega
  have key : ∀ r c, r < H → c < W → r * W + c = y * W + x → r = y ∧ c = x := fun r c hr hc e => by
    by_cases q : r = y
    · subst q; exact ⟨rfl, by omega⟩
    · exact absurd ⟨by omega, by omega⟩ (out_of (n := W) q hc)
  have key2 : ∀ r c, r < H → c < W → r * W + c = y * W + (W - 1 - x) → r = y ∧ c = W - 1 - x := fun r c hr hc e => by
    by_cases q : r = y
    · subst q; exact ⟨rfl, by omega⟩
    · exact absurd ⟨by omega, by omega⟩ (out_of (n := W) q hc)
  refine ⟨by rw [swapL_len _ _ _ _ (by omega) hc, h.len], fun r c o hr hcw ho => ?_⟩
  rw [swapL_get _ _ _ _ _ hac hc]
  by_cases h1 : r * W + c = y * W + x
  · obtain ⟨rfl, rfl⟩ := key r c hr hcw h1
    rw [if_pos ⟨by omega, by omega⟩, if_pos (.inr ⟨rfl, .inl (by omega)⟩), show (r * W + (W - 1 - c)) * 4 + ((r * W + c) * 4 + o - (r * W + c) * 4) = (r * W + (W - 1 - c)) * 4 + o by omega, h.at_ _ _ _ hr (by omega) ho, if_neg (by omega)]
  · rw [if_neg (by omega)]
    by_cases h2 : r * W + c = y * W + (W - 1 - x)
    · obtain ⟨rfl, rfl⟩ := key2 r c hr hcw h2
      rw [if_pos ⟨by omega, by omega⟩, if_pos (.inr ⟨rfl, .inr (by omega)⟩), show (r * W + x) * 4 + ((r * W + (W - 1 - x)) * 4 + o - (r * W + (W - 1 - x)) * 4) = (r * W + x) * 4 + o by omega, h.at_ _ _ _ hr (by omega) ho, if_neg (by omega), show W - 1 - (W - 1 - x) = x by omega]
    · rw [if_neg (by omega), h.at_ _ _ _ hr hcw ho]
      by_cases h3 : r < y ∨ r = y ∧ (c < x ∨ W - x ≤ c)
      · rw [if_pos h3, if_pos (by omega)]
      · have hnx : ¬ (r = y ∧ c = x) := fun ⟨q1, q2⟩ => h1 (by rw [q1, q2])
        have hnx2 : ¬ (r = y ∧ c = W - 1 - x) := fun ⟨q1, q2⟩ => h2 (by rw [q1, q2])
        rw [if_neg h3, if_neg (by omega)]
theorem cols_row {l m : List UInt8} {W H y : Nat} (h : ColsInv l m W H y (W / 2)) : ColsInv l m W H (y + 1) 0 := by
  refine ⟨h.len, fun r c o hr hc ho => ?_⟩
  rw [h.at_ _ _ _ hr hc ho]
  by_cases h1 : r < y ∨ r = y ∧ (c < W / 2 ∨ W - W / 2 ≤ c)
  · rw [if_pos h1, if_pos (by omega)]
  · rw [if_neg h1]
    by_cases h2 : r = y
    · rw [if_pos (.inl (by omega)), show W - 1 - c = c by omega]
    · rw [if_neg (by omega)]
theorem cols_end {l m : List UInt8} {W H : Nat} (h : ColsInv l m W H H 0) (r c o : Nat) (hr : r < H) (hc : c < W) (ho : o < 4) : m[(r * W + c) * 4 + o]? = l[(r * W + (W - 1 - c)) * 4 + o]? := by
  rw [h.at_ _ _ _ hr hc ho, if_pos (.inl hr)]
end Go.Proofs.Ytfgcbhcfekonnaa
