/- The law TgapixFiles, of every number. -/
import Derived.Test.YtccldalagbfmhaaTgaFi
import Derived.OpenShut
namespace Go.Proofs.Ytccldalagbfmhaa
open Go.RowKit
set_option linter.unusedVariables false

theorem tgapixFiles_said (w : World) (s : ByteArray) (hs : s.size ≤ maxLen) (n : Int) (hn : (Lit.int .u8 n).wf = true) :
    Calls Try.prog 3 #[.string s, .int .u8 n] w fun e w' => e = .returned (.bool true) ∧ Below w.heap.size w w' := by
  have h := bounds_u8 hn
  obtain ⟨k, rfl⟩ := Int.eq_ofNat_of_zero_le h.1
  exact tgapixFiles_all w s hs k (by omega)
end Go.Proofs.Ytccldalagbfmhaa
