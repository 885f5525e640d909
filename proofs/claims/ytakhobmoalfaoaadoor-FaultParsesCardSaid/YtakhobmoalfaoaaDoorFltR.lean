/- fault, plain: what is read begins with a kind's and a format's word. -/
import Derived.Test.YtakhobmoalfaoaaDoorFltP
namespace Go.Proofs.YtakhobmoalfaoaaDoor
set_option linter.unusedVariables false

theorem fidx_is {l : List ByteArray} {wd : ByteArray} {i : Nat} (h : fidx l wd = some i) : i < l.length ∧ wordOf l i = wd := by
  unfold fidx at h
  have h1 := List.find?_some h
  have h2 := List.mem_of_find?_eq_some h
  exact ⟨List.mem_range.1 h2, by simpa using h1⟩
theorem fword_ne {f : Nat} (h : f < 9) : wordOf fWords (f : Int) ≠ ⟨#[]⟩ := by
  have : f = 0 ∨ f = 1 ∨ f = 2 ∨ f = 3 ∨ f = 4 ∨ f = 5 ∨ f = 6 ∨ f = 7 ∨ f = 8 := by omega
  rcases this with rfl | rfl | rfl | rfl | rfl | rfl | rfl | rfl | rfl <;> decide
theorem cut_empty : cutB (⟨#[]⟩ : ByteArray) = (⟨#[]⟩, ⟨#[]⟩) := by
  unfold cutB
  rw [cut_not (by simp)]
/-- what is read begins with its front -/
theorem parseP_front {s : ByteArray} {k f n : Nat} (h : parseP s = some (k, f, n)) : k ≤ 4 ∧ f ≤ 8 ∧ FRight (k : Int) (f : Int) (n : Int) ∧ s.data.toList = (front k f).data.toList ++ (dec n).data.toList := by
  unfold parseP at h
  split at h
  · rename_i k' f' v hk hf ha
    split at h
    · rename_i hr
      injection h with h
      injection h with h1 h2
      injection h2 with h2 h3
      subst h1 h2 h3
      obtain ⟨k1, k2⟩ := fidx_is hk
      obtain ⟨f1, f2⟩ := fidx_is hf
      have f9 : f' < 9 := f1
      have k5 : k' < 5 := k1
      have hv : ((v.toNat : Nat) : Int) = v := by have := hr.1; unfold FRight at this; omega
      refine ⟨by omega, by omega, by rw [hv]; exact hr.1, ?_⟩
      rcases cutB_ways s with ⟨e1, _⟩ | ⟨e1, _⟩
      · have : (cutB s).2 = ⟨#[]⟩ := by rw [e1]
        rw [this, cut_empty] at f2
        exact absurd f2 (fword_ne f9)
      · rcases cutB_ways (cutB s).2 with ⟨e2, _⟩ | ⟨e2, _⟩
        · have e3 : (cutB (cutB s).2).2 = ⟨#[]⟩ := by rw [e2]
          rw [e3] at ha
          cases ha
        · rw [e1, e2, ← k2, ← f2, ← hr.2, front_list]
          simp
    · cases h
  · cases h
theorem extract_list (s : ByteArray) (a b : Nat) : (s.extract a b).data.toList = (s.data.toList.drop a).take (b - a) := by
  rw [ByteArray.data_extract, Array.toList_extract, List.extract_eq_take_drop]
/-- a front that fits, by the bytes -/
theorem hasFront_list {s : ByteArray} {k f : Nat} (h : HasFront s k f) : s.data.toList = (front k f).data.toList ++ (s.extract (front k f).size s.size).data.toList := by
  have e : (s.extract 0 (front k f).size).data.toList = (front k f).data.toList := by rw [h.2]
  rw [extract_list, List.drop_zero, Nat.sub_zero] at e
  rw [← e, extract_list, List.take_of_length_le (l := s.data.toList.drop _) (by rw [List.length_drop, lenSize]; omega)]
  exact (List.take_append_drop _ _).symm
theorem hasFront_of {s d : ByteArray} {k f : Nat} (hd : 0 < d.size) (h : s.data.toList = (front k f).data.toList ++ d.data.toList) : HasFront s k f ∧ s.extract (front k f).size s.size = d := by
  have l1 := lenSize (front k f)
  have l2 := lenSize d
  have l3 := lenSize s
  rw [h, List.length_append, l1, l2] at l3
  refine ⟨⟨by omega, ?_⟩, ?_⟩
  · apply bytes_ext
    rw [extract_list, h, List.drop_zero, Nat.sub_zero, ← l1, List.take_left]
  · apply bytes_ext
    rw [extract_list, h, ← l1, List.drop_left, List.take_of_length_le (by rw [l2]; omega)]
theorem front_one {s : ByteArray} {k f k' f' : Nat} (hk : k ≤ 4) (hf : f ≤ 8) (hk' : k' ≤ 4) (hf' : f' ≤ 8) (h : HasFront s k f) (h' : HasFront s k' f') : k = k' ∧ f = f' := by
  obtain ⟨a1, a2, _⟩ := front_cut hk hf (hasFront_list h)
  obtain ⟨b1, b2, _⟩ := front_cut hk' hf' (hasFront_list h')
  have k1 := (kWord_is hk).2
  have k2 := (kWord_is hk').2
  have f1 := (fWord_is hf).2
  have f2 := (fWord_is hf').2
  rw [← a1] at k1
  rw [← b1] at k2
  rw [← a2] at f1
  rw [← b2] at f2
  rw [k1] at k2
  rw [f1] at f2
  exact ⟨Option.some.inj k2, Option.some.inj f2⟩
theorem refF_none {s : ByteArray} {k : Nat} : ∀ n f, (∀ j, f ≤ j → j < f + n → ¬ HasFront s k j) → refF s k n f = none := by
  intro n
  induction n with
  | zero => intro f _; rfl
  | succ n ih =>
    intro f h
    unfold refF
    rw [if_neg (h f (Nat.le_refl _) (by omega))]
    exact ih (f + 1) fun j h1 h2 => h j (by omega) (by omega)
end Go.Proofs.YtakhobmoalfaoaaDoor
