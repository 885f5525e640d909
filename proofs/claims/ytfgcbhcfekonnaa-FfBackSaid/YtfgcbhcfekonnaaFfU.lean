/- Plain: what is written is read again. -/
import Derived.Test.YtfgcbhcfekonnaaFfS
namespace Go.Proofs.Ytfgcbhcfekonnaa
open Go.RowKit
set_option linter.unusedVariables false
set_option linter.unusedSimpArgs false

theorem bat_str (l : List UInt8) (i : Nat) : bat (strOf l) i = (l.getD i 0).toNat := by
  unfold bat nats
  rw [strOf_toList]
  simp only [List.getD_eq_getElem?_getD, List.getElem?_map]
  cases l[i]? <;> rfl
theorem str_size (l : List UInt8) : (strOf l).size = l.length := strOf_size l
theorem dbl_at (l : List UInt8) (j : Nat) : (dbl l).getD (2 * j) 0 = l.getD j 0 ∧ (dbl l).getD (2 * j + 1) 0 = l.getD j 0 := by
  induction l generalizing j with
  | nil => simp [dbl]
  | cons b l ih =>
    cases j with
    | zero => simp [dbl]
    | succ j =>
      have := ih j
      constructor
      · rw [show 2 * (j + 1) = 2 * j + 1 + 1 by omega]; simpa [dbl] using this.1
      · rw [show 2 * (j + 1) + 1 = 2 * j + 1 + 1 + 1 by omega]; simpa [dbl] using this.2
theorem file_len (W H : Nat) (l : List UInt8) : (ffFile W H l).length = 16 + 2 * l.length := by
  unfold ffFile
  rw [List.length_append, dbl_len]
  rfl
theorem file_at (W H : Nat) (l : List UInt8) (j : Nat) : (ffFile W H l).getD (16 + 2 * j) 0 = l.getD j 0 ∧ (ffFile W H l).getD (16 + 2 * j + 1) 0 = l.getD j 0 := by
  have h := dbl_at l j
  unfold ffFile
  have e : ∀ i, (ffHd W H ++ dbl l).getD (16 + i) 0 = (dbl l).getD i 0 := fun i => by
    simp only [List.getD_eq_getElem?_getD]
    rw [List.getElem?_append_right (by simp [ffHd])]
    congr 2
    simp [ffHd]
  rw [e, show 16 + 2 * j + 1 = 16 + (2 * j + 1) by omega, e]
  exact h
theorem file_hd (W H : Nat) (l : List UInt8) (i : Nat) (h : i < 16) : (ffFile W H l).getD i 0 = (ffHd W H).getD i 0 := by
  unfold ffFile
  simp only [List.getD_eq_getElem?_getD]
  rw [List.getElem?_append_left (by simpa [ffHd] using h)]
theorem sround_257 (v : Nat) (h : v < 256) : sround (((v * 256 + v : Nat)) : Int) 65535 = (v : Int) := sround_unique (by omega) (by omega) (by omega)
section
variable {W H : Nat} {l : List UInt8}
theorem back_off (W H : Nat) (l : List UInt8) : offFrom (strOf (ffFile W H l)) ffW 8 0 = 8 := by
  have o := offFrom_is (strOf (ffFile W H l)) ffW 8 0
  generalize offFrom (strOf (ffFile W H l)) ffW 8 0 = i at o
  by_cases h : i < 8
  · exfalso
    have hs := o.stop (by omega)
    rw [bat_str, file_hd W H l i (by omega)] at hs
    rcases (by omega : i = 0 ∨ i = 1 ∨ i = 2 ∨ i = 3 ∨ i = 4 ∨ i = 5 ∨ i = 6 ∨ i = 7) with rfl | rfl | rfl | rfl | rfl | rfl | rfl | rfl
    all_goals exact hs rfl
  · have := o.hi; omega
theorem back_be8 (hW : W ≤ 60) : beN (strOf (ffFile W H l)) 8 4 = W := by
  unfold beN beN beN beN beN
  simp only [bat_str]
  rw [file_hd W H l (8 + 0) (by omega), file_hd W H l (8 + 1) (by omega), file_hd W H l (8 + 2) (by omega), file_hd W H l (8 + 3) (by omega)]
  show ((((0 * 256 + 0) * 256 + 0) * 256 + 0) * 256 + (UInt8.ofNat W).toNat) = W
  have := ofNat8 (n := W) (by omega)
  omega
theorem back_be12 (hH : H ≤ 60) : beN (strOf (ffFile W H l)) 12 4 = H := by
  unfold beN beN beN beN beN
  simp only [bat_str]
  rw [file_hd W H l (12 + 0) (by omega), file_hd W H l (12 + 1) (by omega), file_hd W H l (12 + 2) (by omega), file_hd W H l (12 + 3) (by omega)]
  show ((((0 * 256 + 0) * 256 + 0) * 256 + 0) * 256 + (UInt8.ofNat H).toNat) = H
  have := ofNat8 (n := H) (by omega)
  omega
theorem back_u (j : Nat) : ffU (strOf (ffFile W H l)) (16 + 2 * j) = l.getD j 0 := by
  obtain ⟨h1, h2⟩ := file_at W H l j
  have hv : (l.getD j 0).toNat < 256 := UInt8.toNat_lt _
  have e : beN (strOf (ffFile W H l)) (16 + 2 * j) 2 = (l.getD j 0).toNat * 256 + (l.getD j 0).toNat := by
    unfold beN beN beN
    simp only [bat_str]
    rw [show 16 + 2 * j + 0 = 16 + 2 * j by omega, h1, h2]
    omega
  unfold ffU
  rw [e, sround_257 _ hv]
  simp
theorem back_bytes (k : Nat) (h : 4 * k ≤ l.length) : ffBytes (strOf (ffFile W H l)) k = l.take (4 * k) := by
  induction k with
  | zero => rfl
  | succ k ih =>
    have e : ∀ i, i < 4 → ffU (strOf (ffFile W H l)) (16 + 8 * k + 2 * i) = l[4 * k + i]?.getD 0 := fun i hi => by
      rw [show 16 + 8 * k + 2 * i = 16 + 2 * (4 * k + i) by omega, back_u, List.getD_eq_getElem?_getD]
    have e4 : ∀ i, i < 4 → l[4 * k + i]? = some (l[4 * k + i]?.getD 0) := fun i hi => by rw [List.getElem?_eq_getElem (by omega)]; rfl
    rw [ffBytes, ih (by omega)]
    unfold ffQ
    rw [show 16 + 8 * k = 16 + 8 * k + 2 * 0 by omega, e 0 (by omega), show 16 + 8 * k + 2 * 0 + 2 = 16 + 8 * k + 2 * 1 by omega, e 1 (by omega), show 16 + 8 * k + 2 * 0 + 4 = 16 + 8 * k + 2 * 2 by omega, e 2 (by omega), show 16 + 8 * k + 2 * 0 + 6 = 16 + 8 * k + 2 * 3 by omega, e 3 (by omega)]
    rw [show 4 * (k + 1) = 4 * k + 0 + 1 + 1 + 1 + 1 by omega, List.take_add_one, List.take_add_one, List.take_add_one, List.take_add_one]
    rw [show 4 * k + 0 + 1 + 1 + 1 = 4 * k + 3 by omega, show 4 * k + 0 + 1 + 1 = 4 * k + 2 by omega, show 4 * k + 0 + 1 = 4 * k + 1 by omega, e4 0 (by omega), e4 1 (by omega), e4 2 (by omega), e4 3 (by omega)]
    have e0 := e4 0 (by omega)
    rw [Nat.add_zero] at e0
    simp
    rw [e0]
    rfl
theorem back_pix {z N : Nat} {s : ByteArray} (hs : s.size = 16 + 8 * N) : ∀ n k, n + k = N → (ffPix s W H z n k).told = .img W H (ffBytes s N) := by
  intro n
  induction n with
  | zero => intro k hk; rw [Nat.zero_add] at hk; subst hk; rfl
  | succ n ih =>
    intro k hk
    rw [ffPix_told_yes (by omega)]
    exact ih (k + 1) (by omega)
theorem back_told (hW : 1 ≤ W ∧ W ≤ 60) (hH : 1 ≤ H ∧ H ≤ 60) (hl : l.length = 4 * (W * H)) : (ffDec (strOf (ffFile W H l))).told = .img W H l ∧ ffSides (strOf (ffFile W H l)) = (W, H) := by
  have hsz : (strOf (ffFile W H l)).size = 16 + 8 * (W * H) := by rw [str_size, file_len, hl]; omega
  have hh : ffHead (strOf (ffFile W H l)) = none := by
    have hk := ffHead_is (strOf (ffFile W H l))
    unfold ffHead
    rw [back_off, if_neg (by omega), back_be8 hW.2, back_be12 hH.2]
    rcases sideBad_cases W 8 with ⟨a, _⟩ | ⟨a, _⟩ | ⟨_, _, e⟩
    · omega
    · omega
    · rw [e]
      rcases sideBad_cases H 12 with ⟨a, _⟩ | ⟨a, _⟩ | ⟨_, _, e'⟩
      · omega
      · omega
      · exact e'
  constructor
  · rw [ffDec_told, if_neg (by omega), hh, back_be8 hW.2, back_be12 hH.2]
    show (ffPix _ W H _ (W * H) 0).told = _
    rw [back_pix hsz (W * H) 0 (by omega), back_bytes (W * H) (by omega), List.take_of_length_le (by omega)]
  · unfold ffSides
    rw [if_neg (by omega), hh, back_be8 hW.2, back_be12 hH.2]
end
end Go.Proofs.Ytfgcbhcfekonnaa
