/- fault, plain: what the document reads of a text. -/
import Derived.Test.YtakhobmoalfaoaaDoorFltG
namespace Go.Proofs.YtakhobmoalfaoaaDoor
set_option linter.unusedVariables false

def bt (d : ByteArray) (i : Nat) : Nat := (d.data.toList.getD i 0).toNat
def front (k f : Nat) : ByteArray := wordOf kWords k ++ ⟨#[32]⟩ ++ wordOf fWords f ++ ⟨#[32]⟩
/-- the digits from i on, n of them, behind the number v -/
def dgo (d : ByteArray) : Nat → Nat → Nat → Option Nat
  | 0, _, v => some v
  | n + 1, i, v => if bt d i < 48 ∨ 57 < bt d i ∨ 461168601842738790 < v then none else dgo d n (i + 1) (10 * v + bt d i - 48)
def refD (k f : Nat) (d : ByteArray) : Option (Nat × Nat × Nat) :=
  if 19 < d.size ∨ (bt d 0 = 48 ∧ 1 < d.size) then none else match dgo d d.size 0 0 with
  | none => none
  | some v => if FRight (k : Int) (f : Int) (v : Int) then some (k, f, v) else none
def HasFront (s : ByteArray) (k f : Nat) : Prop := (front k f).size < s.size ∧ s.extract 0 (front k f).size = front k f
instance (s : ByteArray) (k f : Nat) : Decidable (HasFront s k f) := by unfold HasFront; infer_instance
def refF (s : ByteArray) (k : Nat) : Nat → Nat → Option (Option (Nat × Nat × Nat))
  | 0, _ => none
  | n + 1, f => if HasFront s k f then some (refD k f (s.extract (front k f).size s.size)) else refF s k n (f + 1)
def refK (s : ByteArray) : Nat → Nat → Option (Nat × Nat × Nat)
  | 0, _ => none
  | n + 1, k => match refF s k 9 0 with
    | some r => r
    | none => refK s n (k + 1)
/-- what the document reads -/
def refP (s : ByteArray) : Option (Nat × Nat × Nat) := refK s 5 0
/-- a text with the front of a kind and a format is cut so -/
theorem front_list (k f : Nat) : (front k f).data.toList = (wordOf kWords k).data.toList ++ 32 :: ((wordOf fWords f).data.toList ++ [32]) := by
  unfold front
  simp [ByteArray.data_append]
theorem front_cut {s d : ByteArray} {k f : Nat} (hk : k ≤ 4) (hf : f ≤ 8) (hs : s.data.toList = (front k f).data.toList ++ d.data.toList) :
    (cutB s).1 = wordOf kWords k ∧ (cutB (cutB s).2).1 = wordOf fWords f ∧ (cutB (cutB s).2).2 = d := by
  obtain ⟨k1, k2⟩ := kWord_is hk
  obtain ⟨f1, f2⟩ := fWord_is hf
  have e : s.data.toList = (wordOf kWords (k : Int)).data.toList ++ 32 :: ((wordOf fWords (f : Int)).data.toList ++ 32 :: d.data.toList) := by rw [hs, front_list]; simp
  have c1 := cutB_at e k1
  have c2 : cutB (⟨((wordOf fWords (f : Int)).data.toList ++ 32 :: d.data.toList).toArray⟩ : ByteArray) = _ := cutB_at (list_of _) f1
  have e2 : (cutB s).2 = (⟨((wordOf fWords (f : Int)).data.toList ++ 32 :: d.data.toList).toArray⟩ : ByteArray) := by rw [c1]
  refine ⟨by rw [c1], ?_, ?_⟩
  · rw [e2, c2]
  · rw [e2, c2]
theorem split32 : ∀ s : List UInt8, 32 ∉ s ∨ ∃ a b, s = a ++ 32 :: b ∧ 32 ∉ a := by
  intro s
  induction s with
  | nil => exact .inl (by simp)
  | cons c r ih =>
    by_cases hc : c = 32
    · subst hc; exact .inr ⟨[], r, rfl, by simp⟩
    · rcases ih with h | ⟨a, b, rfl, h⟩
      · exact .inl (by simp only [List.mem_cons, not_or]; exact ⟨fun e => hc e.symm, h⟩)
      · exact .inr ⟨c :: a, b, rfl, by simp only [List.mem_cons, not_or]; exact ⟨fun e => hc e.symm, h⟩⟩
/-- how a text is cut -/
theorem cutB_ways (s : ByteArray) : (cutB s = (s, ⟨#[]⟩) ∧ 32 ∉ s.data.toList) ∨ (s.data.toList = (cutB s).1.data.toList ++ 32 :: (cutB s).2.data.toList ∧ 32 ∉ (cutB s).1.data.toList) := by
  rcases split32 s.data.toList with h | ⟨a, b, e, h⟩
  · refine .inl ⟨?_, h⟩
    unfold cutB
    rw [cut_not h]
  · refine .inr ?_
    rw [cutB_at e h]
    exact ⟨e, h⟩
end Go.Proofs.YtakhobmoalfaoaaDoor
