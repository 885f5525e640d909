/- fault: the program's Parse, whole. -/
import Derived.Test.YtakhobmoalfaoaaDoorFltE
namespace Go.Proofs.YtakhobmoalfaoaaDoor
open Go.RowKit
set_option linter.unusedVariables false
set_option linter.unusedSimpArgs false

def parseP (s : ByteArray) : Option (Nat × Nat × Nat) :=
  match fidx kWords (cutB s).1, fidx fWords (cutB (cutB s).2).1, Lib.atoiAll (cutB (cutB s).2).2.data.toList with
  | some k, some f, .ok v => if FRight k f v ∧ dec v.toNat = (cutB (cutB s).2).2 then some (k, f, v.toNat) else none
  | _, _, _ => none
def parseV : Option (Nat × Nat × Nat) → Value
  | some (k, f, n) => .tuple #[.agg #[.int .i64 (k : Int), .int .i64 (f : Int), .int .i64 (n : Int)], .int .i64 0]
  | none => .tuple #[.agg #[.int .i64 0, .int .i64 0, .int .i64 0], .int .i64 6]
theorem arrSize (l : List UInt8) : (⟨l.toArray⟩ : ByteArray).size = l.length := by show l.toArray.size = _; rw [List.size_toArray]
theorem lenSize (s : ByteArray) : s.data.toList.length = s.size := by rw [Array.length_toList]; rfl
theorem cutB_size (s : ByteArray) : (cutB s).1.size ≤ s.size ∧ (cutB s).2.size ≤ s.size := by
  have h := lenSize s
  refine ⟨Nat.le_trans (Nat.le_of_eq (arrSize _)) ?_, Nat.le_trans (Nat.le_of_eq (arrSize _)) ?_⟩
  · unfold Lib.cut
    split
    · show (List.take _ s.data.toList).length ≤ _
      have := List.length_take_le (Lib.index s.data.toList [32]).toNat s.data.toList
      have h2 := List.length_take_le' (Lib.index s.data.toList [32]).toNat s.data.toList
      omega
    · show s.data.toList.length ≤ _
      omega
  · unfold Lib.cut
    split
    · show (List.drop _ s.data.toList).length ≤ _
      rw [List.length_drop]
      omega
    · show ([] : List UInt8).length ≤ _
      exact Nat.zero_le _
theorem parseC {s : ByteArray} (hs : s.size ≤ 1000) {w : World} (hL : LibW w) : Calls Tryd.prog 13 #[.string s] w fun e w' => e = .returned (parseV (parseP s)) ∧ Below w.heap.size w w' := by
  have s1 := (cutB_size s).2
  have s2 := (cutB_size (cutB s).2).2
  have h1 := fun w (h : LibW w) => cutC (s := s) h hs
  have h2 := fun w (h : LibW w) => cutC (s := (cutB s).2) h (by omega)
  have hK := findK (cutB s).1
  have hF := findF (cutB (cutB s).2).1
  have hA := fun w (h : LibW w) => atoiC_any (s := (cutB (cutB s).2).2) h (by omega)
  unfold parseP
  cases hk : fidx kWords (cutB s).1 with
  | none =>
    rw [hk] at hK
    cases hf : fidx fWords (cutB (cutB s).2).1 with
    | none => rw [hf] at hF; exact parse_noK hL h1 h2 hK hF hA
    | some f => rw [hf] at hF; exact parse_noK hL h1 h2 hK hF hA
  | some k =>
    rw [hk] at hK
    cases hf : fidx fWords (cutB (cutB s).2).1 with
    | none => rw [hf] at hF; exact parse_noF hL h1 h2 hK hF hA
    | some f =>
      rw [hf] at hF
      cases ha : Lib.atoiAll (cutB (cutB s).2).2.data.toList with
      | «syntax» => exact parse_noA hL h1 h2 hK hF (fun w h => atoiC_no (s := (cutB (cutB s).2).2) h (by omega) (fun v hv => by rw [ha] at hv; cases hv))
      | range => exact parse_noA hL h1 h2 hK hF (fun w h => atoiC_no (s := (cutB (cutB s).2).2) h (by omega) (fun v hv => by rw [ha] at hv; cases hv))
      | ok v =>
        have hA := fun w (h : LibW w) => atoiC_ok (s := (cutB (cutB s).2).2) h (by omega) ha
        by_cases hR : FRight k f v
        · by_cases hI : dec v.toNat = (cutB (cutB s).2).2
          · have := parse_yes hL h1 h2 hK hF hA hR hI
            simp only
            rw [if_pos ⟨hR, hI⟩]
            have e : ((v.toNat : Nat) : Int) = v := by unfold FRight at hR; omega
            unfold parseV
            simp only
            rw [e]
            exact this
          · have := parse_noI hL h1 h2 hK hF hA hR hI
            simp only
            rw [if_neg (fun h => hI h.2)]
            exact this
        · have := parse_noR hL h1 h2 hK hF hA hR
          simp only
          rw [if_neg (fun h => hR h.1)]
          exact this
end Go.Proofs.YtakhobmoalfaoaaDoor
