/- A clone of an image. -/
import Derived.Test.YtojobfnbakiicaaRas
import Derived.Test.YtojobfnbakiicaaAppendOne
import Derived.Lib.SliceRun
namespace Go.Proofs.Ytojobfnbakiicaa
open Go.RowKit
set_option linter.unusedVariables false
set_option linter.unusedSimpArgs false

def V8 (l : List UInt8) : List Value := l.map fun b => .int .u8 (b.toNat : Int)
theorem ownsBytes {w : World} {base n : Nat} {e : TypeId} {v : Value} {l : List UInt8} (hl : n = l.length) (h : w.ownsRow base e 1 v n (V8 l)) : ∃ a c, v = .slice a n c ∧ BytesAt w a n l ∧ ∀ b off, a = some ⟨b, off, none⟩ → base ≤ b := by
  have hn : (V8 l).length = n := by rw [hl]; simp [V8]
  have h' : Owns1 w base e v (V8 l) := by unfold Owns1; rw [hn]; exact h
  rcases h'.form with ⟨rfl, h0⟩ | ⟨g, cap, rfl, hg, _, _, _, hc⟩
  · have : n = 0 := by rw [← hn, h0]; rfl
    subst this
    exact ⟨none, 0, rfl, ⟨hl, .inl rfl⟩, fun _ _ e => by cases e⟩
  · refine ⟨some ⟨g, 0, none⟩, cap, by rw [hn], ⟨hl, .inr ⟨g, 0, rfl, fun j hj => ?_⟩⟩, fun b off e => by cases e; exact hg⟩
    rw [Nat.zero_add, hc j (by omega)]
    simp [V8, List.getElem?_eq_getElem hj]
theorem BytesAt.set {w : World} {a : Option Addr} {n : Nat} {l : List UInt8} (h : BytesAt w a n l) (k i : Nat) (u : Value) (hk : ∀ b off, a = some ⟨b, off, none⟩ → b ≠ k) : BytesAt (w.setCell ⟨k, i, none⟩ u) a n l := by
  obtain ⟨h1, h0 | ⟨b, off, rfl, hc⟩⟩ := h
  · exact ⟨h1, .inl h0⟩
  · exact ⟨h1, .inr ⟨b, off, rfl, fun j hj => (World.cell?_of_block (Below.heap_setCell w ⟨k, i, none⟩ u b (hk b off rfl))).trans (hc j hj)⟩⟩
end Go.Proofs.Ytojobfnbakiicaa
