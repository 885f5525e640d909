/- A scaler: its table is laid once; the law ScaleTables. -/
import Derived.Test.YtccldalagbfmhaaSync
import Derived.Test.YtccldalagbfmhaaScale
import Derived.Test.YtccldalagbfmhaaOpenInts
import Derived.Deep.OwnRows
namespace Go.Proofs.Ytccldalagbfmhaa
open Go.RowKit
set_option linter.unusedVariables false

def sclN (m : Nat) : Nat := min m 255 + 1
/-- the table, its first q samples laid -/
def sclTab (m q : Nat) : Array Value := ((List.range (sclN m)).map fun j => Value.int .u8 (if j < q then smax (j : Int) (m : Int) else 0)).toArray
def sclCells (m : Nat) (done mu : Int) (t : Value) : Array Value := #[.int .i64 (m : Int), .int .u32 done, .int .i32 mu, .int .u32 0, t]
theorem sclTab_zero (m : Nat) : madeCells #[.int .u8 0] (sclN m) = sclTab m 0 := by
  apply Array.ext'
  simp only [madeCells, sclTab, Array.toList_map, Array.toList_range]
  apply List.ext_getElem (by simp)
  intro i h1 h2
  simp [Nat.mod_one]
theorem sclTab_at {m q i : Nat} (h : i < sclN m) : (sclTab m q)[i]? = some (.int .u8 (if i < q then smax (i : Int) (m : Int) else 0)) := by
  simp [sclTab, h]
theorem sclTab_next {m q : Nat} (h : q < sclN m) : (sclTab m q).setIfInBounds q (.int .u8 (smax (q : Int) (m : Int))) = sclTab m (q + 1) := by
  apply Array.ext (by simp [sclTab])
  intro i h1 h2
  have hi : i < sclN m := by simpa [sclTab] using h2
  have e1 : (sclTab m (q + 1))[i]? = some (.int .u8 (if i < q + 1 then smax (i : Int) (m : Int) else 0)) := sclTab_at hi
  rw [Array.getElem?_eq_getElem h2] at e1
  have e2 : ((sclTab m q).setIfInBounds q (.int .u8 (smax (q : Int) (m : Int))))[i]? = some (.int .u8 (if i < q + 1 then smax (i : Int) (m : Int) else 0)) := by
    rw [Array.getElem?_setIfInBounds]
    by_cases e : q = i
    · subst e
      have : q < (sclTab m q).size := by simp [sclTab, h]
      rw [if_pos rfl, if_pos this, if_pos (by omega)]
    · rw [if_neg e, sclTab_at hi]
      by_cases hlt : i < q
      · rw [if_pos hlt, if_pos (by omega)]
      · rw [if_neg hlt, if_neg (by omega)]
  rw [Array.getElem?_eq_getElem h1] at e2
  exact Option.some.inj (e2.trans e1.symm)

end Go.Proofs.Ytccldalagbfmhaa
