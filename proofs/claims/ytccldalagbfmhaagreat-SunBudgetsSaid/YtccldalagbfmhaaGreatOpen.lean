/- Arguments opened: slices of structs of one-cell fields; colours. -/
import Derived.Test.YtccldalagbfmhaaGreatProg
import Derived.ProofKit
import Derived.OpenShut
import Derived.Deep.Slices
import Derived.Deep.Fields
import Derived.ChangeSame
import Derived.Lib.SmallJoins
namespace Go.Proofs.YtccldalagbfmhaaGreat
open Go.ChangeShapes Go.WideShapes Go.Deep Go.RowKit Go.Joins
set_option linter.unusedVariables false

section
variable {H : Type} {enc : TypeId × Value → H} {P : Program} {w : World} {base : Nat} {spare : Nat → Bool} {held : Bool}

theorem addr_add_lit {b off : Nat} {spot : Option Nat} (n : Nat) (h : spot = none) : ({ block := b, off := off, spot := spot } : Addr).add n = ⟨b, off + n, none⟩ := by
  subst h
  unfold Addr.add
  split
  · rename_i h; subst h; rfl
  · rfl

/-- a slice whose elements are structs of one-cell fields: each field's cell, and its reading -/
theorem open_structs {t e : TypeId} {fs : Array Field} {a : Option Addr} {len cap : Nat} {d : DataW H} {p : List MemPlace} (ht : P.underlying t = some (.slice e)) (he : P.underlying e = some (.struct fs))
    (hone : oneCellFields P fs = true) (hC : P.cellsOf e = fs.size) (hpos : 0 < fs.size) (hsp : ∀ b, spare b = true) (h : DataW.Trod enc P w base spare held t (.slice a len cap) d p) :
    len = 0 ∨ ∃ b off, a = some ⟨b, off, none⟩ ∧ len ≤ cap ∧ cap ≤ maxLen ∧
      ∀ i, i < len → ∃ n, ∀ (j : Nat) (f : Field), fs[j]? = some f → ∃ (v : Value) (y : DataW H × List MemPlace), w.cell? ⟨b, off + i * fs.size + j, none⟩ = some v ∧ DataW.trod enc P w base spare held n f.type [v] = some y := by
  obtain ⟨fuel, hf⟩ := h
  simp only [Value.cells] at hf
  rcases open_slice ht hf with ⟨hcs, _⟩ | ⟨a', len', cap', m, n, D, Pl, hcs, hb, hl, hm, hmm, hx, hi⟩
  · simp only [List.cons.injEq, Value.slice.injEq] at hcs
    exact .inl hcs.1.2.1
  · simp only [List.cons.injEq, Value.slice.injEq] at hcs
    obtain ⟨⟨rfl, rfl, rfl⟩, _⟩ := hcs
    rcases Nat.eq_zero_or_pos len with h0 | hp
    · exact .inl h0
    right
    have hmlen : m = cap := by rw [hmm, hsp, if_pos rfl]
    obtain ⟨b, off, spot⟩ := a'
    have step : ∀ i, i < len → ∃ n, ∀ (j : Nat) (f : Field), fs[j]? = some f → ∃ (v : Value) (y : DataW H × List MemPlace), w.cell? ((⟨b, off, spot⟩ : Addr).add (i * fs.size + j)) = some v ∧ DataW.trod enc P w base spare held n f.type [v] = some y := by
      intro i him
      obtain ⟨cs', hc, ht'⟩ := hi i (by omega)
      rw [hC] at hc
      obtain ⟨ys, n', hn', hy, hlen, hyl, hf'⟩ := DataW.trod_struct he ht'
      obtain ⟨_, hcl, hat⟩ := World.cells?_some hc
      refine ⟨n', fun j f hj => ?_⟩
      obtain ⟨ho, hk⟩ := hone_of hone j f hj
      have hjl : j < fs.size := (Array.getElem?_eq_some_iff.1 hj).1
      have hcell := hat j hjl
      have hv : cs'[j]? = some (cs'[j]'(by omega)) := List.getElem?_eq_getElem (by omega)
      have h1 := hf' j f hj
      rw [ho, hk] at h1
      have hone' : (cs'.drop j).take 1 = [cs'[j]'(by omega)] := by
        rw [List.drop_eq_getElem_cons (by omega)]
        rfl
      rw [hone'] at h1
      have hys : ys[j]? = some (ys[j]'(by omega)) := List.getElem?_eq_getElem (by omega)
      refine ⟨_, _, ?_, h1.trans hys⟩
      rw [← Go.Deep.add_add, hcell, hv]
    have hspot : spot = none := by
      obtain ⟨n, hn⟩ := step 0 hp
      obtain ⟨v, y, hc, _⟩ := hn 0 fs[0] (Array.getElem?_eq_getElem hpos)
      have e : ((⟨b, off, spot⟩ : Addr).add (0 * fs.size + 0)) = ⟨b, off, spot⟩ := by simp [Addr.add]
      rw [e] at hc
      simpa using World.cell?_spot hc
    subst hspot
    refine ⟨b, off, rfl, hl, hm, fun i him => ?_⟩
    obtain ⟨n, hn⟩ := step i him
    refine ⟨n, fun j f hj => ?_⟩
    obtain ⟨v, y, hc, ht⟩ := hn j f hj
    rw [addr_add_lit _ rfl, ← Nat.add_assoc] at hc
    exact ⟨v, y, hc, ht⟩
end
end Go.Proofs.YtccldalagbfmhaaGreat
