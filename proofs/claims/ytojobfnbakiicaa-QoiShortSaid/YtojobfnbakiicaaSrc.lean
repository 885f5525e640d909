/- A source's block, and its calls. -/
import Derived.Test.YtojobfnbakiicaaLedger
import Derived.Test.YtojobfnbakiicaaBits
namespace Go.Proofs.Ytojobfnbakiicaa
open Go.RowKit
set_option linter.unusedVariables false

def srcCells (g : Nat) (s : ByteArray) (f t a : Nat) : Array Value := #[.pointer (some ⟨g, 0, none⟩), .string s, .int .i64 (f : Int), .int .i64 (t : Int), .int .i64 (a : Int)]
/-- the numbers of a source are in order -/
structure SrcOk (s : ByteArray) (f t a : Nat) : Prop where
  fa : f ≤ a
  at_ : a ≤ t
  ts : t ≤ s.size
  sm : s.size ≤ 1099511627776

section
variable {w w' : World} {p g : Nat} {s : ByteArray} {f t a : Nat} {x y : Led}
theorem below_set3 {B : Nat} {a w : World} {b i j k : Nat} {u v x : Value} (h : Below B a w) (hb : B ≤ b) : Below B a (((w.setCell ⟨b, i, none⟩ u).setCell ⟨b, j, none⟩ v).setCell ⟨b, k, none⟩ x) := below_set (below_set (below_set h hb) hb) hb

end
/-- the bytes of a text, as numbers -/
def nats (s : ByteArray) : List Nat := s.data.toList.map UInt8.toNat
def bat (s : ByteArray) (i : Nat) : Nat := (nats s).getD i 0
theorem nats_len (s : ByteArray) : (nats s).length = s.size := by unfold nats; rw [List.length_map, list_len]
theorem bat_eq {s : ByteArray} {i : Nat} (h : i < s.size) : bat s i = s[i].toNat := by
  unfold bat nats
  rw [List.getD_eq_getElem?_getD, List.getElem?_map, get_list h]
  rfl
theorem bat_lt (s : ByteArray) (i : Nat) : bat s i < 256 := by
  by_cases h : i < s.size
  · rw [bat_eq h]; exact UInt8.toNat_lt _
  · unfold bat
    rw [List.getD_eq_getElem?_getD, List.getElem?_eq_none (by rw [nats_len]; omega)]
    decide

theorem extract_bat {s : ByteArray} {k : Nat} (h : k < s.size) : s.extract k (k + 1) = strOf [UInt8.ofNat (bat s k)] := by
  rw [extract_one h, bat_eq h]
  simp

section
variable {w w' : World} {p g : Nat} {s : ByteArray} {f t a : Nat} {x y : Led}
end
end Go.Proofs.Ytojobfnbakiicaa
