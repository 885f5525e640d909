/- A palette's Read. -/
import Derived.Test.YtccldalagbfmhaaGreatMPal1
namespace Go.Proofs.YtccldalagbfmhaaGreat
open Go.RowKit
set_option linter.unusedVariables false
set_option linter.unusedSimpArgs false

/-- the colours of the first j entries -/
def ents (k : Int) (z : Nat) (s : ByteArray) (j : Nat) : List Qc := (List.range j).map fun i => ecol k (s.data.toList.drop (i * z))
theorem ents_succ (k : Int) (z : Nat) (s : ByteArray) (j : Nat) : ents k z s (j + 1) = ents k z s j ++ [ecol k (s.data.toList.drop (j * z))] := by simp [ents, List.range_succ]
theorem ents_len (k : Int) (z : Nat) (s : ByteArray) (j : Nat) : (ents k z s j).length = j := by simp [ents]
theorem extract_list' (s : ByteArray) (a b : Nat) : (s.extract a b).data.toList = (s.data.toList.drop a).take (b - a) := by
  simp [ByteArray.data_extract, Array.toList_extract, List.extract_eq_take_drop]
end Go.Proofs.YtccldalagbfmhaaGreat
