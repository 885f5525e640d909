/- The walks of the laws of chapter 8 that keep no state: ScaleSamples, ScaleRises, ScaleLeast return true. -/
import Derived.Test.YtfgcbhcfekonnaaScale
import Derived.WalkSpells
import Derived.WalkLawsBesides
namespace Go.Proofs.Ytfgcbhcfekonnaa
set_option linter.unusedVariables false
open Go.RowKit

/-- what a sample's test leaves: one of two -/
theorem smay_ways (v m : Int) : (smay v m = true ∧ smax v m = sround v m ∧ 0 ≤ sround v m ∧ sround v m ≤ 255) ∨ (smay v m = false ∧ smax v m = 0) := by
  cases hs : smay v m
  · exact .inr ⟨rfl, by simp [smax, hs]⟩
  · obtain ⟨h1, h2, h3, h4⟩ := smay_iff.1 hs
    exact .inl ⟨rfl, by simp [smax, hs], (sround_range h1 h3 h4).1, (sround_range h1 h3 h4).2⟩

end Go.Proofs.Ytfgcbhcfekonnaa
