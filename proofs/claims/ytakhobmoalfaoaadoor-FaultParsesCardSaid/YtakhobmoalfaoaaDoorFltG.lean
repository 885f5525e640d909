/- fault, plain: cuts, numerals; a text is read as it was. -/
import Derived.Test.YtakhobmoalfaoaaDoorFltF
import Derived.Lib.AtoiAllCases
namespace Go.Proofs.YtakhobmoalfaoaaDoor
open Go.RowKit
set_option linter.unusedVariables false
set_option linter.unusedSimpArgs false

theorem index_at : ∀ (a b : List UInt8), 32 ∉ a → Lib.index (a ++ 32 :: b) [32] = (a.length : Int) := by
  intro a b h
  refine Lib.index_first (by simp) ?_ ?_
  · unfold Lib.occAt
    rw [List.drop_left]
    simp [List.isPrefixOf]
  · intro j hj
    unfold Lib.occAt
    rw [List.drop_append_of_le_length (by omega)]
    have hlt : j < a.length := hj
    rw [List.drop_eq_getElem_cons hlt]
    have hne : a[j] ≠ 32 := fun e => h (e ▸ List.getElem_mem hlt)
    have : ((32 : UInt8) == a[j]) = false := by rw [beq_eq_false_iff_ne]; exact fun e => hne e.symm
    rw [List.cons_append]
    simp only [List.isPrefixOf, this, Bool.false_and]
theorem index_not {s : List UInt8} (h : 32 ∉ s) : Lib.index s [32] = -1 := by
  refine Lib.index_none fun j hj => ?_
  unfold Lib.occAt
  by_cases hlt : j < s.length
  · rw [List.drop_eq_getElem_cons hlt]
    have hne : s[j] ≠ 32 := fun e => h (e ▸ List.getElem_mem hlt)
    have : ((32 : UInt8) == s[j]) = false := by rw [beq_eq_false_iff_ne]; exact fun e => hne e.symm
    simp only [List.isPrefixOf, this, Bool.false_and]
  · rw [List.drop_eq_nil_of_le (by omega)]
    rfl
theorem cut_at {a b : List UInt8} (h : 32 ∉ a) : Lib.cut (a ++ 32 :: b) [32] = (a, b, true) := by
  unfold Lib.cut
  rw [index_at a b h, if_pos (by omega)]
  simp
theorem cut_not {s : List UInt8} (h : 32 ∉ s) : Lib.cut s [32] = (s, [], false) := by
  unfold Lib.cut
  rw [index_not h, if_neg (by omega)]
theorem pu_append : ∀ (l m : List UInt8) (acc : Nat) (u : Nat), Lib.parseUint10 acc l = .ok u → Lib.parseUint10 acc (l ++ m) = Lib.parseUint10 u m := by
  intro l
  induction l with
  | nil => intro m acc u h; simp only [Lib.parseUint10] at h; injection h with h; subst h; rfl
  | cons c r ih =>
    intro m acc u h
    rw [List.cons_append]
    unfold Lib.parseUint10 at h
    conv => lhs; unfold Lib.parseUint10
    split at h
    · rename_i hd
      rw [if_pos hd]
      split at h
      · cases h
      · rename_i h1
        rw [if_neg h1]
        split at h
        · cases h
        · rename_i h2
          rw [if_neg h2]
          exact ih _ _ _ h
    · cases h
theorem pu_dec : ∀ n : Nat, n ≤ 4611686018427387904 → Lib.parseUint10 0 (Lib.decDigits n) = .ok n := by
  intro n
  induction n using Nat.strongRecOn with
  | ind n ih =>
    intro hn
    have one : ∀ (acc d : Nat), d < 10 → acc ≤ 461168601842738790 → Lib.parseUint10 acc [UInt8.ofNat (48 + d)] = .ok (acc * 10 + d) := by
      intro acc d hd ha
      have e : (UInt8.ofNat (48 + d)).toNat = 48 + d := by rw [UInt8.toNat_ofNat']; exact Nat.mod_eq_of_lt (by omega)
      unfold Lib.parseUint10
      rw [e, if_pos (by omega), if_neg (by omega), if_neg (by omega), show 48 + d - 48 = d by omega]
      rfl
    rw [Lib.decDigits]
    split
    · rename_i h
      have := one 0 n h (by omega)
      rw [Nat.zero_mul, Nat.zero_add] at this
      exact this
    · rename_i h
      rw [pu_append _ _ _ _ (ih (n / 10) (by omega) (by omega)), one _ _ (by omega) (by omega)]
      congr 1
      omega
theorem dec_digit : ∀ n : Nat, ∀ c ∈ Lib.decDigits n, 48 ≤ c.toNat ∧ c.toNat ≤ 57 := by
  intro n
  induction n using Nat.strongRecOn with
  | ind n ih =>
    intro c hc
    have one : ∀ d, d < 10 → (UInt8.ofNat (48 + d)).toNat = 48 + d := fun d hd => by rw [UInt8.toNat_ofNat']; exact Nat.mod_eq_of_lt (by omega)
    rw [Lib.decDigits] at hc
    split at hc
    · rename_i h
      rw [List.mem_singleton] at hc
      subst hc
      rw [one n h]; omega
    · rename_i h
      rw [List.mem_append, List.mem_singleton] at hc
      rcases hc with hc | hc
      · exact ih (n / 10) (by omega) c hc
      · subst hc; rw [one _ (by omega)]; omega
theorem dec_some (n : Nat) : ∃ c r, Lib.decDigits n = c :: r := by
  cases h : Lib.decDigits n with
  | nil => rw [Lib.decDigits] at h; split at h <;> simp at h
  | cons c r => exact ⟨c, r, rfl⟩
theorem atoi_dec {n : Nat} (hn : n ≤ 4611686018427387904) : Lib.atoiAll (Lib.decDigits n) = .ok (n : Int) := by
  obtain ⟨c, r, h⟩ := dec_some n
  have hc := dec_digit n c (by rw [h]; simp)
  have hp := pu_dec n hn
  rw [h] at hp ⊢
  rw [Lib.atoiAll_plain c r (by omega) (by omega)]
  unfold Lib.parseMag
  rw [if_neg (by simp), hp]
  unfold Lib.signless
  simp only
  rw [if_neg (by omega)]
theorem kWord_is {n : Nat} (h : n ≤ 4) : 32 ∉ (wordOf kWords n).data.toList ∧ fidx kWords (wordOf kWords n) = some n := by
  have : n = 0 ∨ n = 1 ∨ n = 2 ∨ n = 3 ∨ n = 4 := by omega
  rcases this with rfl | rfl | rfl | rfl | rfl <;> exact ⟨by decide, by decide⟩
theorem fWord_is {n : Nat} (h : n ≤ 8) : 32 ∉ (wordOf fWords n).data.toList ∧ fidx fWords (wordOf fWords n) = some n := by
  have : n = 0 ∨ n = 1 ∨ n = 2 ∨ n = 3 ∨ n = 4 ∨ n = 5 ∨ n = 6 ∨ n = 7 ∨ n = 8 := by omega
  rcases this with rfl | rfl | rfl | rfl | rfl | rfl | rfl | rfl | rfl <;> exact ⟨by decide, by decide⟩
theorem list_of (l : List UInt8) : (⟨l.toArray⟩ : ByteArray).data.toList = l := rfl
theorem cutB_at {s : ByteArray} {a b : List UInt8} (hs : s.data.toList = a ++ 32 :: b) (h : 32 ∉ a) : cutB s = (⟨a.toArray⟩, ⟨b.toArray⟩) := by
  unfold cutB
  rw [hs, cut_at h]
theorem ftext_list (k f : Int) (n : Nat) : (ftext k f n).data.toList = (wordOf kWords k).data.toList ++ 32 :: ((wordOf fWords f).data.toList ++ 32 :: Lib.decDigits n) := by
  unfold ftext dec
  simp [ByteArray.data_append]
theorem parse_text {k f n : Nat} (hR : FRight (k : Int) (f : Int) (n : Int)) : parseP (ftext (k : Int) (f : Int) n) = some (k, f, n) := by
  have hk : k ≤ 4 := by unfold FRight at hR; omega
  have hf : f ≤ 8 := by unfold FRight at hR; omega
  have hn : n ≤ 4611686018427387904 := by unfold FRight at hR; omega
  obtain ⟨k1, k2⟩ := kWord_is hk
  obtain ⟨f1, f2⟩ := fWord_is hf
  have c1 := cutB_at (ftext_list (k : Int) (f : Int) n) k1
  have c2 : cutB (⟨((wordOf fWords (f : Int)).data.toList ++ 32 :: Lib.decDigits n).toArray⟩ : ByteArray) = _ := cutB_at (list_of _) f1
  have e1 : (⟨(wordOf kWords (k : Int)).data.toList.toArray⟩ : ByteArray) = wordOf kWords (k : Int) := bytes_ext (list_of _)
  have e2 : (⟨(wordOf fWords (f : Int)).data.toList.toArray⟩ : ByteArray) = wordOf fWords (f : Int) := bytes_ext (list_of _)
  rw [e1] at c1
  rw [e2] at c2
  unfold parseP
  rw [c1]
  simp only
  rw [c2]
  simp only
  rw [k2, f2, atoi_dec hn]
  simp only
  rw [if_pos ⟨hR, by rw [Int.toNat_natCast]; rfl⟩, Int.toNat_natCast]
end Go.Proofs.YtakhobmoalfaoaaDoor
