/- fault: what of the library's variables is read, out of what is laid. -/
import Derived.Test.YtakhobmoalfaoaaDoorFltH
import Derived.Test.YtakhobmoalfaoaaDoorRows
import Derived.LaidLaws
import Derived.LaidSub
import Derived.MakeChecks
import Derived.Lib.LaidTab
namespace Go.Proofs.YtakhobmoalfaoaaDoor
open Go.RowKit
set_option linter.unusedVariables false

def laidL5 : List (String × DataW Unit) := [("math/bits.deBruijn32tab", Rows.laid_math_bits_deBruijn32tab), ("math/bits.deBruijn64tab", Rows.laid_math_bits_deBruijn64tab), ("internal/strconv.uint64pow10", Rows.laid_internal_strconv_uint64pow10), ("strconv.ErrRange", Rows.laid_strconv_ErrRange), ("strconv.ErrSyntax", Rows.laid_strconv_ErrSyntax)]
theorem laid_one {W : World} (h : laidMetH Tryd.prog laidL5 W) (n : String) (x : String × DataW Unit) (e : laidL5.filter (fun y => y.1 == n) = [x]) (hn : x.2.handleName?.isNone = true) : laidMet Tryd.prog [x] W := by
  have h1 := laidMetH.filter (fun y => y.1 == n) h
  rw [e, Go.MakeChecks.laidMetH_plain _ _ _ (by simp [hn])] at h1
  exact h1
theorem err_of_laid {W : World} {n : String} {nm : String} {d : DataW Unit} {g t : Nat} {ms : Array (String × TypeId)} (hg : Tryd.prog.globalNamed n = some g) (ht : (Tryd.prog.globals[g]?).map (·.type) = some t) (hi : Tryd.prog.underlying t = some (.interface ms)) (h : laidMet Tryd.prog [(n, .iface nm d)] W) : ∃ tp p, W.var? Tryd.prog n = some #[.iface tp p] := by
  obtain ⟨ps, ⟨g', t', cs, fuel, p, q, hg', ht', hvar, hd, _, _⟩, _⟩ := h
  obtain rfl := Option.some.inj (hg.symm.trans hg')
  obtain rfl := Option.some.inj (ht.symm.trans ht')
  obtain ⟨l⟩ := cs
  obtain ⟨f1, u, v, hl, _⟩ := iface_of_trod hi hd
  have hl' : l = [.iface u v] := hl
  subst hl'
  exact ⟨u, v, hvar⟩
theorem libW_of_laid {W : World} (h : laidMetH Tryd.prog laidL5 W) : LibW W where
  tab := Lib.tabIs_of_head (g := 3) (t := 73) (e := 58) (n := 20) (by kernel_rfl) (by kernel_rfl) (by kernel_rfl) (by kernel_rfl) (by kernel_rfl) (by kernel_rfl) (laid_one h "internal/strconv.uint64pow10" ("internal/strconv.uint64pow10", Lib.tabData .u64 Lib.pow10Tab) (by rfl) (by rfl))
  syn := err_of_laid (g := 1) (t := 44) (by kernel_rfl) (by kernel_rfl) Tryd.underlying44 (laid_one h "strconv.ErrSyntax" _ (by rfl) (by rfl))
  rng := err_of_laid (g := 2) (t := 44) (by kernel_rfl) (by kernel_rfl) Tryd.underlying44 (laid_one h "strconv.ErrRange" _ (by rfl) (by rfl))
end Go.Proofs.YtakhobmoalfaoaaDoor
