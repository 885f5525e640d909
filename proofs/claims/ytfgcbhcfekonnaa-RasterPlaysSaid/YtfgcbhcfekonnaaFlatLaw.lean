/- Plain: rows of pixels, and their bytes: turned, set, cut. -/
import Derived.Test.YtfgcbhcfekonnaaFlipLaw
import Derived.Test.YtfgcbhcfekonnaaRasRef2
namespace Go.Proofs.Ytfgcbhcfekonnaa
set_option linter.unusedVariables false
set_option linter.unusedSimpArgs false

theorem flat_get (L : List Qc) (i o : Nat) (ho : o < 4) : (flat L)[i * 4 + o]? = (L[i]?).bind fun q => q.list[o]? := by
  induction L generalizing i with
  | nil => simp [flat]
  | cons x L ih =>
    have e : flat (x :: L) = x.list ++ flat L := by simp [flat]
    have hl : x.list.length = 4 := rfl
    rw [e]
    cases i with
    | zero =>
      rw [List.getElem?_append_left (by omega), Nat.zero_mul, Nat.zero_add]
      rfl
    | succ i =>
      rw [List.getElem?_append_right (by omega), hl, show (i + 1) * 4 + o - 4 = i * 4 + o by omega, ih]
      rfl
theorem flat_ext {m : List UInt8} {L : List Qc} (hl : m.length = 4 * L.length) (h : ∀ i o, i < L.length → o < 4 → m[i * 4 + o]? = (L[i]?).bind fun q => q.list[o]?) : m = flat L := by
  apply List.ext_getElem?
  intro k
  by_cases hk : k < 4 * L.length
  · have e : k = k / 4 * 4 + k % 4 := by omega
    rw [e, h (k / 4) (k % 4) (by omega) (by omega), flat_get _ _ _ (by omega)]
  · rw [List.getElem?_eq_none (by omega), List.getElem?_eq_none (by rw [flat_len]; omega)]
theorem flat_set {L : List Qc} {i : Nat} (q : Qc) (hi : i < L.length) : over (flat L) (4 * i) [q.r, q.g, q.b, q.a] = flat (L.set i q) := by
  have hq : [q.r, q.g, q.b, q.a].length = 4 := rfl
  have hfl := flat_len L
  apply flat_ext
  · rw [over_len _ _ _ (by rw [hq]; omega), flat_len, List.length_set]
  · intro j o hj ho
    rw [List.length_set] at hj
    rw [over_get _ _ _ _ (by rw [hq]; omega), hq]
    by_cases hji : j = i
    · subst hji
      rw [if_pos (by omega), List.getElem?_set_self hj, show j * 4 + o - 4 * j = o by omega]
      rfl
    · rw [if_neg (by omega), List.getElem?_set_ne (Ne.symm hji), flat_get _ _ _ ho]
theorem flat_take (L : List Qc) (k : Nat) (hk : k ≤ L.length) : (flat L).take (4 * k) = flat (L.take k) := by
  have e : flat L = flat (L.take k) ++ flat (L.drop k) := by rw [← flat_append, List.take_append_drop]
  have hl : (flat (L.take k)).length = 4 * k := by rw [flat_len, List.length_take]; omega
  rw [e, ← hl, List.take_left']
  rfl
theorem flat_drop (L : List Qc) (k : Nat) (hk : k ≤ L.length) : (flat L).drop (4 * k) = flat (L.drop k) := by
  have e : flat L = flat (L.take k) ++ flat (L.drop k) := by rw [← flat_append, List.take_append_drop]
  have hl : (flat (L.take k)).length = 4 * k := by rw [flat_len, List.length_take]; omega
  rw [e, ← hl, List.drop_left']
  rfl
theorem flat_cut {L : List Qc} {p n : Nat} (h : p + n ≤ L.length) : ((flat L).drop (4 * p)).take (4 * n) = flat ((L.drop p).take n) := by
  rw [flat_drop _ _ (by omega), flat_take _ _ (by rw [List.length_drop]; omega)]
theorem flipQ_get {L : List Qc} {W H n i : Nat} {rows : Bool} (hi : i < n) (hk : flipK W H rows i < L.length) : (flipQ L W H rows n)[i]? = L[flipK W H rows i]? := by
  unfold flipQ
  rw [List.getElem?_map, List.getElem?_range hi, Option.map_some, List.getElem?_eq_getElem hk, List.getD_eq_getElem?_getD, List.getElem?_eq_getElem hk]
  rfl
theorem in_row {i W H : Nat} (h : i < H * W) : i / W < H ∧ i % W < W ∧ i / W * W + i % W = i := by
  have hW : 0 < W := by
    rcases Nat.eq_zero_or_pos W with e | e
    · subst e; simp at h
    · exact e
  exact ⟨(Nat.div_lt_iff_lt_mul hW).2 h, Nat.mod_lt _ hW, Nat.div_add_mod' i W⟩
theorem down_lt {r H : Nat} (h : r < H) : H - 1 - r < H := by omega
theorem mul4 (r W : Nat) : r * (4 * W) = r * W * 4 := by rw [Nat.mul_comm 4 W, Nat.mul_assoc]
theorem flat_rows {L : List Qc} {m : List UInt8} {W H : Nat} (h : RowsInv (flat L) m (4 * W) H (H / 2)) (hL : L.length = H * W) : m = flat (flipQ L W H true (H * W)) := by
  apply flat_ext
  · rw [h.len, flat_len, flipQ_len, hL]
  · intro i o hi ho
    rw [flipQ_len] at hi
    obtain ⟨h1, h2, h3⟩ := in_row hi
    have hk : flipK W H true i < L.length := by
      show (H - 1 - i / W) * W + i % W < _
      have := row_in (n := W) (down_lt h1)
      rw [hL]; exact Nat.lt_of_lt_of_le (Nat.add_lt_add_left h2 _) this
    rw [flipQ_get hi hk]
    have e := rows_end h (i / W) (i % W * 4 + o) h1 (by omega)
    have e1 : i / W * (4 * W) + (i % W * 4 + o) = i * 4 + o := by rw [mul4]; omega
    have e2 : (H - 1 - i / W) * (4 * W) + (i % W * 4 + o) = flipK W H true i * 4 + o := by
      show _ = ((H - 1 - i / W) * W + i % W) * 4 + o
      rw [mul4]; omega
    rw [e1, e2, flat_get _ _ _ ho] at e
    exact e
theorem flat_cols {L : List Qc} {m : List UInt8} {W H : Nat} (h : ColsInv (flat L) m W H H 0) (hL : L.length = H * W) : m = flat (flipQ L W H false (H * W)) := by
  apply flat_ext
  · rw [h.len, flat_len, flipQ_len, hL]
  · intro i o hi ho
    rw [flipQ_len] at hi
    obtain ⟨h1, h2, h3⟩ := in_row hi
    have hk : flipK W H false i < L.length := by
      show i / W * W + (W - 1 - i % W) < _
      have := row_in (n := W) h1
      rw [hL]; omega
    rw [flipQ_get hi hk]
    have e := cols_end h (i / W) (i % W) o h1 h2 ho
    rw [h3, show i / W * W + (W - 1 - i % W) = flipK W H false i from rfl, flat_get _ _ _ ho] at e
    exact e
end Go.Proofs.Ytfgcbhcfekonnaa
