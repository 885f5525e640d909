/- Arguments opened: slices of texts. -/
import Derived.Test.YtkaijekdnbhjaaaOpenInts
import Derived.Test.YtkaijekdnbhjaaaTga2
namespace Go.Proofs.Ytkaijekdnbhjaaa
open Go.ChangeShapes Go.WideShapes Go.Deep Go.RowKit
set_option linter.unusedVariables false
section
variable {H : Type} {enc : TypeId × Value → H} {P : Program} {w : World} {base : Nat} {spare : Nat → Bool} {held : Bool}
theorem strs_of {t e : TypeId} {a : Option Addr} {len cap : Nat} {d : DataW H} {p : List MemPlace} (ht : P.underlying t = some (.slice e)) (he : P.underlying e = some .string) (hc : P.cellsOf e = 1) (hsp : ∀ b, spare b = true)
    (h : DataW.Trod enc P w base spare held t (.slice a len cap) d p) : ∃ l, RowIn w a len cap l := by
  obtain ⟨fuel, hf⟩ := h
  simp only [Value.cells] at hf
  rcases open_slice1 ht hc hf with ⟨hcs, _⟩ | ⟨a', len', cap', m, n, V, D, Pl, hcs, hb, hl, hm, hmm, hx, hi⟩
  · simp only [List.cons.injEq, Value.slice.injEq] at hcs
    obtain ⟨⟨rfl, rfl, rfl⟩, _⟩ := hcs
    exact ⟨[], rfl, Nat.le_refl _, .inl rfl⟩
  · simp only [List.cons.injEq, Value.slice.injEq] at hcs
    obtain ⟨⟨rfl, rfl, rfl⟩, _⟩ := hcs
    rcases Nat.eq_zero_or_pos len with h0 | hp
    · exact ⟨[], by rw [h0]; rfl, hl, .inl h0⟩
    have hmlen : m = cap := by rw [hmm, hsp, if_pos rfl]
    obtain ⟨b, off, spot⟩ := a'
    have hspot : spot = none := by
      have hc0 := (hi 0 (by omega)).1
      have e : ((⟨b, off, spot⟩ : Addr).add 0) = ⟨b, off, spot⟩ := by simp [Addr.add]
      rw [e] at hc0
      simpa using World.cell?_spot hc0
    subst hspot
    have key : ∀ i, ∃ z : ByteArray, i < len → w.cell? ⟨b, off + i, none⟩ = some (.string z) := by
      intro i
      by_cases hil : i < len
      · obtain ⟨c0, t0⟩ := hi i (by omega)
        obtain ⟨z, e0, _, f0⟩ := DataW.trod_string he t0
        have ev : V i = .string z := by simpa using e0
        have ea : ((⟨b, off, none⟩ : Addr).add i) = ⟨b, off + i, none⟩ := by
          unfold Addr.add
          split
          · rename_i h; subst h; rfl
          · rfl
        rw [ev, ea] at c0
        exact ⟨z, fun _ => c0⟩
      · exact ⟨⟨#[]⟩, fun h => absurd h hil⟩
    obtain ⟨f, hf'⟩ := Classical.axiomOfChoice key
    refine ⟨(List.range len).map f, by simp, hl, .inr ⟨b, off, rfl, fun j hj => ?_⟩⟩
    have hj' : j < len := by simpa using hj
    rw [hf' j hj']
    simp
end
end Go.Proofs.Ytkaijekdnbhjaaa
