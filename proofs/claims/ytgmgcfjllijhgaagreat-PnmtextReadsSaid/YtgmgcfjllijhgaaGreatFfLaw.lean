/- Plain: a farbfeld file, as a decoder takes it. -/
import Derived.Test.YtgmgcfjllijhgaaGreatDecLaw
import Derived.Test.YtgmgcfjllijhgaaGreatScale
namespace Go.Proofs.YtgmgcfjllijhgaaGreat
set_option linter.unusedVariables false

def ffW : List Nat := [102, 97, 114, 98, 102, 101, 108, 100]
/-- what is wrong with a side at a -/
def sideBad (v a : Nat) : Option (Nat × Nat) := if v = 0 then some (2, a) else if 16384 < v then some (3, a) else none
def ffHead (s : ByteArray) : Option (Nat × Nat) :=
  if offFrom s ffW 8 0 < 8 then some (2, offFrom s ffW 8 0) else match sideBad (beN s 8 4) 8 with | some f => some f | none => sideBad (beN s 12 4) 12
/-- a sample of a pixel -/
def ffU (s : ByteArray) (i : Nat) : UInt8 := UInt8.ofNat (sround (beN s i 2 : Int) 65535).toNat
def ffQ (s : ByteArray) (k : Nat) : List UInt8 := [ffU s (16 + 8 * k), ffU s (16 + 8 * k + 2), ffU s (16 + 8 * k + 4), ffU s (16 + 8 * k + 6)]
def ffBytes (s : ByteArray) : Nat → List UInt8
  | 0 => []
  | n + 1 => ffBytes s n ++ ffQ s n
theorem ffBytes_len (s : ByteArray) (n : Nat) : (ffBytes s n).length = 4 * n := by
  induction n with
  | zero => rfl
  | succ n ih => unfold ffBytes; rw [List.length_append, ih]; simp [ffQ]; omega
def ffPix (s : ByteArray) (W H z : Nat) : Nat → Nat → Dec
  | 0, k => .fin (.img W H (ffBytes s k))
  | n + 1, k => .work 1 z (16 + 8 * k) (if 16 + 8 * k + 8 ≤ s.size then .work 1 z (16 + 8 * k + 8) (ffPix s W H z n (k + 1)) else .give z (.fin (.bad 1 s.size)))
def ffBody (s : ByteArray) (W H : Nat) : Dec := .sides W H 16 (.take (4 * (W * H)) 16 (ffPix s W H (4 * (W * H)) (W * H) 0))
def ffDec (s : ByteArray) : Dec :=
  .work 1 0 0 (if s.size < 16 then .fin (.bad 1 s.size) else match ffHead s with
    | some f => .fin (.bad f.1 f.2)
    | none => ffBody s (beN s 8 4) (beN s 12 4))

theorem sideBad_cases (v a : Nat) : (v = 0 ∧ sideBad v a = some (2, a)) ∨ (16384 < v ∧ sideBad v a = some (3, a)) ∨ (1 ≤ v ∧ v ≤ 16384 ∧ sideBad v a = none) := by
  unfold sideBad
  by_cases h : v = 0
  · exact .inl ⟨h, if_pos h⟩
  · by_cases h2 : 16384 < v
    · exact .inr (.inl ⟨h2, by rw [if_neg h, if_pos h2]⟩)
    · exact .inr (.inr ⟨by omega, by omega, by rw [if_neg h, if_neg h2]⟩)
/-- the ways of a head -/
inductive FfHead (s : ByteArray) : Option (Nat × Nat) → Prop where
  | word (i : Nat) (h : i < 8) (o : Off s ffW 0 8 i) : FfHead s (some (2, i))
  | w0 (o : Off s ffW 0 8 8) (h : beN s 8 4 = 0) : FfHead s (some (2, 8))
  | w1 (o : Off s ffW 0 8 8) (h : 16384 < beN s 8 4) : FfHead s (some (3, 8))
  | h0 (o : Off s ffW 0 8 8) (h1 : 1 ≤ beN s 8 4) (h2 : beN s 8 4 ≤ 16384) (h : beN s 12 4 = 0) : FfHead s (some (2, 12))
  | h1 (o : Off s ffW 0 8 8) (h1 : 1 ≤ beN s 8 4) (h2 : beN s 8 4 ≤ 16384) (h : 16384 < beN s 12 4) : FfHead s (some (3, 12))
  | ok (o : Off s ffW 0 8 8) (h1 : 1 ≤ beN s 8 4) (h2 : beN s 8 4 ≤ 16384) (h3 : 1 ≤ beN s 12 4) (h4 : beN s 12 4 ≤ 16384) : FfHead s none
theorem ffHead_is (s : ByteArray) : FfHead s (ffHead s) := by
  have o := offFrom_is s ffW 8 0
  unfold ffHead
  by_cases h : offFrom s ffW 8 0 < 8
  · rw [if_pos h]; exact .word _ h o
  · rw [if_neg h]
    have e : offFrom s ffW 8 0 = 8 := by have := o.hi; omega
    rw [e] at o
    rcases sideBad_cases (beN s 8 4) 8 with ⟨a, b⟩ | ⟨a, b⟩ | ⟨a, a', b⟩
    · rw [b]; exact .w0 o a
    · rw [b]; exact .w1 o a
    · rw [b]
      rcases sideBad_cases (beN s 12 4) 12 with ⟨c, d⟩ | ⟨c, d⟩ | ⟨c, c', d⟩
      · simp only [d]; exact .h0 o a a' c
      · simp only [d]; exact .h1 o a a' c
      · simp only [d]; exact .ok o a a' c c'
theorem ffPix_bal (s : ByteArray) (W H : Nat) : ∀ n k, n + k = W * H → (s.size ≥ 16 + 8 * k) → (ffPix s W H (4 * (W * H)) n k).bal s.size (4 * (W * H)) := by
  intro n
  induction n with
  | zero =>
    intro k hk _
    refine ⟨rfl, ?_⟩
    rw [ffBytes_len]
    omega
  | succ n ih =>
    intro k hk hs
    refine ⟨rfl, hs, ?_⟩
    by_cases h : 16 + 8 * k + 8 ≤ s.size
    · rw [if_pos h]
      exact ⟨rfl, h, ih (k + 1) (by omega) (by omega)⟩
    · rw [if_neg h]
      exact ⟨Nat.le_refl _, by omega, by decide, Nat.le_refl _⟩
theorem ffBody_bal (s : ByteArray) (W H : Nat) (h : 16 ≤ s.size) : (ffBody s W H).bal s.size 0 := by
  refine ⟨rfl, h, rfl, h, ?_⟩
  rw [Nat.zero_add]
  exact ffPix_bal s W H _ 0 (by omega) (by omega)
theorem ffDec_bal (s : ByteArray) : (ffDec s).bal s.size 0 := by
  refine ⟨rfl, Nat.zero_le _, ?_⟩
  by_cases h : s.size < 16
  · rw [if_pos h]; exact ⟨rfl, by decide, Nat.le_refl _⟩
  · rw [if_neg h]
    have hk := ffHead_is s
    generalize ffHead s = o at hk ⊢
    cases hk with
    | word i hi o => exact ⟨rfl, by simp, by simp only; omega⟩
    | w0 o h' => exact ⟨rfl, by simp, by simp only; omega⟩
    | w1 o h' => exact ⟨rfl, by simp, by simp only; omega⟩
    | h0 o a b h' => exact ⟨rfl, by simp, by simp only; omega⟩
    | h1 o a b h' => exact ⟨rfl, by simp, by simp only; omega⟩
    | ok o a b c d => exact ffBody_bal s _ _ (by omega)
theorem ffPix_cost (s : ByteArray) (W H z : Nat) : ∀ n k, (ffPix s W H z n k).cost ≤ 2 * n := by
  intro n
  induction n with
  | zero => intro k; exact Nat.zero_le _
  | succ n ih =>
    intro k
    unfold ffPix Dec.cost
    by_cases h : 16 + 8 * k + 8 ≤ s.size
    · rw [if_pos h]
      have := ih (k + 1)
      unfold Dec.cost
      omega
    · rw [if_neg h]
      unfold Dec.cost Dec.cost
      omega
theorem ffPix_may (s : ByteArray) (W H z : Nat) (B w h : Int) : ∀ n k, (ffPix s W H z n k).may B w h := by
  intro n
  induction n with
  | zero => intro k; exact trivial
  | succ n ih =>
    intro k
    refine ⟨by decide, ?_⟩
    by_cases h : 16 + 8 * k + 8 ≤ s.size
    · rw [if_pos h]
      exact ⟨by decide, ih _⟩
    · rw [if_neg h]
      exact trivial
/-- the sides that a head tells, or noughts -/
def ffSides (s : ByteArray) : Nat × Nat := if s.size < 16 then (0, 0) else match ffHead s with | some _ => (0, 0) | none => (beN s 8 4, beN s 12 4)
/-- what is enough for small images -/
theorem ffDec_enough (s : ByteArray) (hw : (ffSides s).1 ≤ 60) (hh : (ffSides s).2 ≤ 60) : (ffDec s).cost ≤ 10000 ∧ (ffDec s).may 262144 16384 16384 := by
  unfold ffDec Dec.cost Dec.may
  unfold ffSides at hw hh
  by_cases h : s.size < 16
  · rw [if_pos h]; exact ⟨by unfold Dec.cost; decide, by decide, trivial⟩
  · rw [if_neg h] at hw hh ⊢
    have hk := ffHead_is s
    generalize ffHead s = o at hk hw hh ⊢
    cases hk with
    | word i hi o => exact ⟨by unfold Dec.cost; decide, by decide, trivial⟩
    | w0 o h' => exact ⟨by unfold Dec.cost; decide, by decide, trivial⟩
    | w1 o h' => exact ⟨by unfold Dec.cost; decide, by decide, trivial⟩
    | h0 o a b h' => exact ⟨by unfold Dec.cost; decide, by decide, trivial⟩
    | h1 o a b h' => exact ⟨by unfold Dec.cost; decide, by decide, trivial⟩
    | ok o a b c d =>
      have hW : beN s 8 4 ≤ 60 := hw
      have hH : beN s 12 4 ≤ 60 := hh
      have hp : beN s 8 4 * beN s 12 4 ≤ 3600 := Nat.mul_le_mul hW hH
      have hc := ffPix_cost s (beN s 8 4) (beN s 12 4) (4 * (beN s 8 4 * beN s 12 4)) (beN s 8 4 * beN s 12 4) 0
      have hm := ffPix_may s (beN s 8 4) (beN s 12 4) (4 * (beN s 8 4 * beN s 12 4)) 262144 16384 16384 (beN s 8 4 * beN s 12 4) 0
      refine ⟨?_, by decide, ?_⟩
      · show _ + (ffBody s (beN s 8 4) (beN s 12 4)).cost ≤ _
        unfold ffBody Dec.cost Dec.cost
        have : (1 : Int).toNat = 1 := rfl
        omega
      · exact ⟨⟨by omega, by omega⟩, ⟨by omega, by omega⟩, by omega, hm⟩
end Go.Proofs.YtgmgcfjllijhgaaGreat
