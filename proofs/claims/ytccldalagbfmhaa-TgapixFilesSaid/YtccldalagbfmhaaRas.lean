/- raster.New. A raster's at, Set, swap, Get. A raster's Get and Set. A raster's Set. An image: is it right? An image's bytes; are two images one? A raster's refusals; Row, Image, Free, Width, Height. -/
import Derived.Test.YtccldalagbfmhaaNum
import Derived.Test.YtccldalagbfmhaaBuf
import Derived.Test.YtccldalagbfmhaaSync
namespace Go.Proofs.Ytccldalagbfmhaa
open Go.RowKit
set_option linter.unusedVariables false
set_option linter.unusedSimpArgs false

def rasC (g b : Nat) (W H : Int) (o : Bool) : Array Value := #[.pointer (some ⟨g, 0, none⟩), .int .i64 W, .int .i64 H, .pointer (some ⟨b, 0, none⟩), .bool o]
section
variable {w : World} {r g b : Nat} {W H : Int} {o : Bool}
end
def sideHyp (W H : Int) : Prop := (1 ≤ W ∧ W ≤ 16384) ∧ (1 ≤ H ∧ H ≤ 16384)
end Go.Proofs.Ytccldalagbfmhaa
namespace Go.Proofs.Ytccldalagbfmhaa
open Go.RowKit
set_option linter.unusedVariables false
set_option linter.unusedSimpArgs false

section
variable {w : World} {r g b d : Nat} {l : List UInt8} {x y : Led}
theorem size_list' (x : ByteArray) : x.size = x.data.toList.length := by rw [Array.length_toList]; rfl
theorem strOf_data (l : List UInt8) : (strOf l).data.toList = l := strOf_toList l
/-- two stretches against each other -/
def swapL (l : List UInt8) (a c n : Nat) : List UInt8 := over (over l a ((l.drop c).take n)) c ((l.drop a).take n)
theorem cut_len {l : List UInt8} {a n : Nat} (h : a + n ≤ l.length) : ((l.drop a).take n).length = n := by simp; omega
/-- four bytes of a colour -/
def quad (c0 c1 c2 c3 : UInt8) : List UInt8 := [c0, c1, c2, c3]
end
end Go.Proofs.Ytccldalagbfmhaa
namespace Go.Proofs.Ytccldalagbfmhaa
open Go.RowKit
set_option linter.unusedVariables false
set_option linter.unusedSimpArgs false

def colC (a b c d : Int) : Array Value := #[.int .u8 a, .int .u8 b, .int .u8 c, .int .u8 d]
def CB (w : World) (n : Nat) (a b c d : Int) : Prop := Blk w n 49 (colC a b c d)
section
variable {w : World} {n : Nat} {a b c d : Int}
theorem CB.c0 (h : CB w n a b c d) : w.cell? ⟨n, 0, none⟩ = some (.int .u8 a) := Blk.cell h 0
theorem CB.c1 (h : CB w n a b c d) : w.cell? ⟨n, 1, none⟩ = some (.int .u8 b) := Blk.cell h 1
theorem CB.c2 (h : CB w n a b c d) : w.cell? ⟨n, 2, none⟩ = some (.int .u8 c) := Blk.cell h 2
theorem CB.c3 (h : CB w n a b c d) : w.cell? ⟨n, 3, none⟩ = some (.int .u8 d) := Blk.cell h 3
def st4 (w : World) (n : Nat) (a b c d : Int) : World := (((w.setCell ⟨n, 0, none⟩ (.int .u8 a)).setCell ⟨n, 1, none⟩ (.int .u8 b)).setCell ⟨n, 2, none⟩ (.int .u8 c)).setCell ⟨n, 3, none⟩ (.int .u8 d)
theorem CB.store {a' b' c' d' : Int} (h : CB w n a b c d) : CB (st4 w n a' b' c' d') n a' b' c' d' := ((((Blk.set_ h 0 _).set_ 1 _).set_ 2 _).set_ 3 _).eq_ (by simp [colC])
theorem Below.st4 {B : Nat} {a0 : World} (h : Below B a0 w) (hb : B ≤ n) : Below B a0 (st4 w n a b c d) := below_set (below_set (below_set (below_set h hb) hb) hb) hb
end
section
variable {w : World} {r g b d : Nat} {l : List UInt8} {x y : Led}
end
end Go.Proofs.Ytccldalagbfmhaa
namespace Go.Proofs.Ytccldalagbfmhaa
open Go.RowKit
set_option linter.unusedVariables false
set_option linter.unusedSimpArgs false

theorem over_snoc (l s : List UInt8) (i : Nat) (v : UInt8) (h : i + s.length < l.length) : (over l i s).set (i + s.length) v = over l i (s ++ [v]) := by
  unfold over
  have e : (l.take i ++ s).length = i + s.length := by simp; omega
  rw [List.set_append_right _ _ (by rw [e]; exact Nat.le_refl _), e, Nat.sub_self, List.drop_eq_getElem_cons h, List.set_cons_zero]
  simp [List.append_assoc]
  omega
section
variable {w : World} {r g b d : Nat} {l : List UInt8} {x y : Led}
end
end Go.Proofs.Ytccldalagbfmhaa
namespace Go.Proofs.Ytccldalagbfmhaa
open Go.RowKit
set_option linter.unusedVariables false
set_option linter.unusedSimpArgs false

def RightP (W H : Int) (n : Nat) : Prop := (1 ≤ W ∧ W ≤ 16384) ∧ (1 ≤ H ∧ H ≤ 16384) ∧ (n : Int) = 4 * W * H
instance (W H : Int) (n : Nat) : Decidable (RightP W H n) := by unfold RightP; infer_instance
theorem img_prod {W H : Int} (hW : 1 ≤ W ∧ W ≤ 16384) (hH : 1 ≤ H ∧ H ≤ 16384) : IntKind.i64.wrap (4 * W * H) = 4 * W * H := by
  obtain ⟨a, rfl⟩ := Int.eq_ofNat_of_zero_le (show 0 ≤ W by omega)
  obtain ⟨b, rfl⟩ := Int.eq_ofNat_of_zero_le (show 0 ≤ H by omega)
  have h : a * b ≤ 16384 * 16384 := Nat.mul_le_mul (by omega) (by omega)
  have e : 4 * (a : Int) * (b : Int) = 4 * ((a * b : Nat) : Int) := by rw [Int.mul_assoc, Int.natCast_mul]
  rw [e]
  exact IntWalk.i64_in _ (by omega)
theorem img_prod64 {W H : Int} (hW : 1 ≤ W ∧ W ≤ 16384) (hH : 1 ≤ H ∧ H ≤ 16384) : wrap64 (4 * W * H) = 4 * W * H := by
  obtain ⟨a, rfl⟩ := Int.eq_ofNat_of_zero_le (show 0 ≤ W by omega)
  obtain ⟨b, rfl⟩ := Int.eq_ofNat_of_zero_le (show 0 ≤ H by omega)
  have h : a * b ≤ 16384 * 16384 := Nat.mul_le_mul (by omega) (by omega)
  have e : 4 * (a : Int) * (b : Int) = 4 * ((a * b : Nat) : Int) := by rw [Int.mul_assoc, Int.natCast_mul]
  rw [e]
  unfold wrap64
  omega
theorem img_four {W : Int} (hW : 1 ≤ W ∧ W ≤ 16384) : wrap64 (4 * W) = 4 * W := by unfold wrap64; omega
end Go.Proofs.Ytccldalagbfmhaa
namespace Go.Proofs.Ytccldalagbfmhaa
open Go.RowKit
set_option linter.unusedVariables false
set_option linter.unusedSimpArgs false

/-- the bytes that a slice reads -/
def BytesAt (w : World) (a : Option Addr) (n : Nat) (l : List UInt8) : Prop :=
  n = l.length ∧ (n = 0 ∨ ∃ b off, a = some ⟨b, off, none⟩ ∧ ∀ j (hj : j < l.length), w.cell? ⟨b, off + j, none⟩ = some (.int .u8 (l[j].toNat : Int)))
theorem addrAdd (b off j : Nat) : (⟨b, off, none⟩ : Addr).add j = ⟨b, off + j, none⟩ := by
  unfold Addr.add
  split
  · rename_i h; subst h; rfl
  · rfl
theorem bytesText {w : World} {a : Option Addr} {n : Nat} {l : List UInt8} (h : BytesAt w a n l) (c : Nat) : (convert 118 9 (.slice a n c)).run Try.prog w = .ok (.string (strOf l)) w := by
  obtain ⟨rfl, h0 | ⟨b, off, rfl, hc⟩⟩ := h
  · obtain rfl : l = [] := List.eq_nil_of_length_eq_zero h0
    cases a with
    | none => exact (show (convert 118 9 (.slice none 0 c)).run Try.prog w = .ok (.string (strOf [])) w by kernel_rfl)
    | some ad => exact run_convert_bytes_back (P := Try.prog) w 118 9 5 ad c [] Try.underlying118 Try.underlying5 Try.underlying9 (fun j hj => absurd hj (by simp))
  · exact run_convert_bytes_back (P := Try.prog) w 118 9 5 ⟨b, off, none⟩ c l Try.underlying118 Try.underlying5 Try.underlying9 (fun j hj => by rw [addrAdd]; exact hc j hj)
theorem BytesAt.below {w w' : World} {a : Option Addr} {n : Nat} {l : List UInt8} (h : BytesAt w a n l) (hb : Below w.heap.size w w') : BytesAt w' a n l := by
  obtain ⟨h1, h0 | ⟨b, off, rfl, hc⟩⟩ := h
  · exact ⟨h1, .inl h0⟩
  · exact ⟨h1, .inr ⟨b, off, rfl, fun j hj => (hb.cell (p := ⟨b, off + j, none⟩) (World.block_lt_of_cell? w _ (hc j hj))).trans (hc j hj)⟩⟩
theorem BytesAt.alloc {w : World} {a : Option Addr} {n : Nat} {l : List UInt8} (h : BytesAt w a n l) (ob : Obj) : BytesAt (w.alloc ob) a n l := h.below ((Below.refl _ _).alloc (Nat.le_refl _) _)
theorem strOf_eq_iff {l m : List UInt8} : strOf l = strOf m ↔ l = m := ⟨strOf_inj, fun h => by rw [h]⟩
theorem textInj {s t : ByteArray} (e : s.toList = t.toList) : s = t := by
  rw [ByteArray.toList_eq, ByteArray.toList_eq] at e
  rw [← strOf_of s, ← strOf_of t, e]
theorem textEq (s t : ByteArray) : (s.toList == t.toList) = decide (s = t) := by
  by_cases q : s = t
  · subst q; simp
  · rw [decide_eq_false q]
    exact beq_eq_false_iff_ne.2 fun e => q (textInj e)
/-- are two images one? -/
def SameP (W H W2 H2 : Int) (l m : List UInt8) : Prop := W = W2 ∧ H = H2 ∧ l = m
instance (W H W2 H2 : Int) (l m : List UInt8) : Decidable (SameP W H W2 H2 l m) := by unfold SameP; infer_instance
end Go.Proofs.Ytccldalagbfmhaa
namespace Go.Proofs.Ytccldalagbfmhaa
open Go.RowKit
set_option linter.unusedVariables false
set_option linter.unusedSimpArgs false

section
variable {w : World} {r g b d : Nat} {l : List UInt8} {x y : Led}
end
end Go.Proofs.Ytccldalagbfmhaa
