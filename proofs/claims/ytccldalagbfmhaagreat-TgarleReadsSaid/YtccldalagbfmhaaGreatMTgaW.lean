/- The document's Sides and Decode of a file of TGA's, whole; runs by the wide budget, by any budget. -/
import Derived.Test.YtccldalagbfmhaaGreatMTgaV
import Derived.Test.YtccldalagbfmhaaGreatMTgaN2
import Derived.Test.YtccldalagbfmhaaGreatMTgaR
import Derived.Test.YtccldalagbfmhaaGreatMRun
import Derived.Test.YtccldalagbfmhaaGreatMFfM
namespace Go.Proofs.YtccldalagbfmhaaGreat
open Go.RowKit
set_option linter.unusedVariables false
set_option linter.unusedSimpArgs false

theorem tgaFault_some {s : ByteArray} {f : Nat × Nat} (h : tgaFault s = some f) : f.1 ≠ 0 ∧ f.1 ≠ 4 := by
  unfold tgaFault at h
  by_cases h1 : s.size < 18
  · rw [if_pos h1] at h; cases h; exact ⟨by simp, by simp⟩
  · rw [if_neg h1] at h; exact ⟨(tgaHead_some h).1, (tgaHead_some h).2.1⟩
theorem tgaFault_size {s : ByteArray} (h : tgaFault s = none) : 18 ≤ s.size := by
  unfold tgaFault at h
  by_cases h1 : s.size < 18
  · rw [if_pos h1] at h; cases h
  · omega
section
variable {s : ByteArray} {h : TgaHd} {M : List Qc}
theorem tgaNextR_bad {t a : Nat} {L : List Qc} {g : Nat × Nat} (e : tgaNextR s h M t a L = .inl g) : g.1 ≠ 0 ∧ g.1 ≠ 4 := by
  unfold tgaNextR at e
  by_cases h1 : a + h.size ≤ s.size
  · rw [if_pos h1] at e
    cases hp : tgaPixel s h M a with
    | inl g' => rw [hp] at e; cases e; rw [tgaPixel_bad hp]; exact ⟨by simp, by simp⟩
    | inr q => rw [hp] at e; cases e
  · rw [if_neg h1] at e; cases e; exact ⟨by simp, by simp⟩
theorem tgaRawR_bad : ∀ n a L {g : Nat × Nat}, tgaRawR s h M n a L = .inl g → g.1 ≠ 0 ∧ g.1 ≠ 4 := by
  intro n
  induction n with
  | zero => intro a L g e; cases e
  | succ n ih =>
    intro a L g e
    unfold tgaRawR at e
    cases hx : tgaNextR s h M 1 a L with
    | inl g' => rw [hx] at e; cases e; exact tgaNextR_bad hx
    | inr p => rw [hx] at e; exact ih _ _ e
theorem tgaPkR_bad {N : Nat} : ∀ f a L {g : Nat × Nat}, tgaPkR s h M N f a L = .inl g → g.1 ≠ 0 ∧ g.1 ≠ 4 := by
  intro f
  induction f with
  | zero => intro a L g e; cases e
  | succ f ih =>
    intro a L g e
    unfold tgaPkR at e
    by_cases h0 : N ≤ L.length
    · rw [if_pos h0] at e; cases e
    · rw [if_neg h0] at e
      by_cases h1 : a + 1 ≤ s.size
      · rw [if_pos h1] at e
        by_cases h2 : N - L.length < bat s a % 128 + 1
        · rw [if_pos h2] at e; cases e; exact ⟨by simp, by simp⟩
        · rw [if_neg h2] at e
          by_cases h3 : 128 ≤ bat s a
          · rw [if_pos h3] at e
            cases hx : tgaNextR s h M (bat s a % 128 + 1) (a + 1) L with
            | inl g' => rw [hx] at e; cases e; exact tgaNextR_bad hx
            | inr p => rw [hx] at e; exact ih _ _ e
          · rw [if_neg h3] at e
            cases hx : tgaRawR s h M (bat s a % 128 + 1) (a + 1) L with
            | inl g' => rw [hx] at e; cases e; exact tgaRawR_bad _ _ _ hx
            | inr p => rw [hx] at e; exact ih _ _ e
      · rw [if_neg h1] at e; cases e; exact ⟨by simp, by simp⟩
theorem tgaPixR_ways {a : Nat} : (∃ k b : Nat, k ≠ 0 ∧ k ≠ 4 ∧ tgaPixR s h M a = .bad k b) ∨ ∃ l, tgaPixR s h M a = .img h.W h.H l := by
  unfold tgaPixR
  by_cases hp : TgaPacked h.typ
  · rw [if_pos hp]
    cases hx : tgaPkR s h M (h.W * h.H) (h.W * h.H) a [] with
    | inl g => exact .inl ⟨g.1, g.2, (tgaPkR_bad _ _ _ hx).1, (tgaPkR_bad _ _ _ hx).2, rfl⟩
    | inr L => exact .inr ⟨_, rfl⟩
  · rw [if_neg hp]
    cases hx : tgaRawR s h M (h.W * h.H) a [] with
    | inl g => exact .inl ⟨g.1, g.2, (tgaRawR_bad _ _ _ hx).1, (tgaRawR_bad _ _ _ hx).2, rfl⟩
    | inr p => exact .inr ⟨_, rfl⟩
theorem tgaMapR_bad {g : Nat × Nat} (e : tgaMapR s h = .inl g) : g.1 ≠ 0 ∧ g.1 ≠ 4 := by
  unfold tgaMapR at e
  split at e
  · split at e
    · cases e
    · split at e
      · cases e
      · cases e; exact ⟨by simp, by simp⟩
  · cases e; exact ⟨by simp, by simp⟩
theorem tgaRef_ways : (∃ k b : Nat, k ≠ 0 ∧ k ≠ 4 ∧ tgaRef s h = .bad k b) ∨ ∃ l, tgaRef s h = .img h.W h.H l := by
  unfold tgaRef
  cases hx : tgaMapR s h with
  | inl g => exact .inl ⟨g.1, g.2, (tgaMapR_bad hx).1, (tgaMapR_bad hx).2, rfl⟩
  | inr p => exact tgaPixR_ways
end
/-- the ways that a file is told -/
inductive TgaTold (s : ByteArray) : Prop where
  | bad (k a : Nat) (hk : k ≠ 0) (h4 : k ≠ 4) (hf : tgaFault s = some (k, a)) (t : (tgaDec s).told = .bad k a) (u : tgaSides s = (0, 0, 0)) : TgaTold s
  | body (hf : tgaFault s = none) (t : (tgaDec s).told = tgaRef s (tgaHd s)) (u : tgaSides s = ((tgaHd s).W, (tgaHd s).H, if (tgaHd s).mapped then (tgaHd s).count else 0)) : TgaTold s
theorem tgaTold_is (s : ByteArray) : TgaTold s := by
  cases hf : tgaFault s with
  | some f =>
    refine .bad f.1 f.2 (tgaFault_some hf).1 (tgaFault_some hf).2 hf ?_ ?_
    · rw [tgaDec_told, hf]
    · unfold tgaSides; rw [hf]
  | none =>
    refine .body hf ?_ ?_
    · rw [tgaDec_told, hf]
    · unfold tgaSides; rw [hf]
theorem tgaTold_ways {s : ByteArray} : (∃ k a : Nat, k ≠ 0 ∧ k ≠ 4 ∧ (tgaDec s).told = .bad k a) ∨ ∃ l, (tgaDec s).told = .img (tgaHd s).W (tgaHd s).H l := by
  cases tgaTold_is s with
  | bad k a hk h4 hf t u => exact .inl ⟨k, a, hk, h4, t⟩
  | body hf t u => rw [t]; exact tgaRef_ways
theorem tgaRdV_none {s : ByteArray} (h : tgaFault s = none) : tgaRdV s = tRV (tgaHd s) := by
  unfold tgaRdV; rw [h]
end Go.Proofs.YtccldalagbfmhaaGreat
