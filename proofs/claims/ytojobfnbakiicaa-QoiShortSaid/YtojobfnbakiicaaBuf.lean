/- A buffer: its block, its bytes; Make, leave, Free, Len. A buffer's bytes: there, Get; the reference's Same. A buffer's At, Set, Put, Fill, Out. -/
import Derived.Test.YtojobfnbakiicaaLedger
import Derived.Deep.OwnRows
import Derived.Lib.BufferWrite
namespace Go.Proofs.Ytojobfnbakiicaa
open Go.RowKit
set_option linter.unusedVariables false

def bufOpen (g d n : Nat) : Array Value := #[.pointer (some ⟨g, 0, none⟩), .slice (some ⟨d, 0, none⟩) n n, .int .u32 0, .int .i32 0, .int .u32 0]
def bufGone (g : Nat) : Array Value := #[.pointer (some ⟨g, 0, none⟩), .slice none 0 0, .int .u32 1, .int .i32 0, .int .u32 0]
section
variable {w w' : World} {b g d : Nat} {l : List UInt8} {x : Led}
theorem made8 (n : Nat) : madeCells #[.int .u8 0] n = (C8 (List.replicate n 0)).toArray := by
  apply Array.ext'
  simp only [madeCells, C8, Array.toList_map, Array.toList_range, List.map_replicate]
  apply List.ext_getElem (by simp)
  intro i h1 h2
  simp [Nat.mod_one]
end

def B0 : Led := ⟨0, 0, 5, 0, 0, 0, 0, 0, 0⟩
def B1 : Led := ⟨0, 0, 5, 0, 3, 3, 0, 0, 0⟩
def B2 : Led := ⟨0, 0, 5, 0, 0, 3, 0, 0, 0⟩
theorem B0.ok : B0.Ok := by constructor <;> decide
theorem B1.ok : B1.Ok := by constructor <;> decide
theorem eb0 : Led.new 0 0 5 0 = B0 := rfl
theorem eb1 : B0.take 3 = (B1, true) := rfl
theorem eb2 : B1.give ((List.replicate 3 (0 : UInt8)).length : Int) = (B2, true) := rfl
theorem eb3 : B1.bytes = 3 := rfl
theorem eb4 : B2.bytes = 0 := rfl
end Go.Proofs.Ytojobfnbakiicaa
namespace Go.Proofs.Ytojobfnbakiicaa
open Go.RowKit
set_option linter.unusedVariables false

/-- string(x) of bytes that lie in cells -/
theorem wpList_convert_cells {ops : Array Oper} {rest : List Oper} {o : Oper} {a : Act} {Q : Exit → Act → World → Prop} {w : World} (hgd : o.guard = none) (x : Operand) (dst : TypeId) (hd : Try.prog.underlying dst = some .string)
    (ho : o.op = .convert 24 dst x) (g i n c : Nat) (hx : a.eval x = .slice (some ⟨g, i, none⟩) n c) (l : List UInt8) (hl : l.length = n) (hc : ∀ j (hj : j < l.length), w.cell? ⟨g, i + j, none⟩ = some (.int .u8 (l[j].toNat : Int)))
    (h : wpList Try.prog ops Q rest (a.put o.dst (.string (strOf l))) w) : wpList Try.prog ops Q (o :: rest) a w := by
  refine wpList_plain hgd fun K hK => ?_
  subst hl
  have hrun := run_convert_bytes_back w 24 dst 5 ⟨g, i, none⟩ c l Try.underlying24 Try.underlying5 hd (fun j hj => by
    have e : (⟨g, i, none⟩ : Addr).add j = ⟨g, i + j, none⟩ := by
      unfold Addr.add
      split
      · rename_i h; subst h; rfl
      · rfl
    rw [e]
    exact hc j hj)
  unfold Oper.wp
  simp [execOp, ho, hx, hrun, Result.andThen]
  exact hK _ _ h

section
variable {w : World} {b g d : Nat} {l : List UInt8}
end

end Go.Proofs.Ytojobfnbakiicaa
namespace Go.Proofs.Ytojobfnbakiicaa
open Go.RowKit
set_option linter.unusedVariables false
set_option linter.unusedSimpArgs false

section
variable {w : World} {b g d : Nat} {l : List UInt8}
theorem C8_set (l : List UInt8) (i : Nat) (v : UInt8) : (C8 l).toArray.setIfInBounds i (.int .u8 (v.toNat : Int)) = (C8 (l.set i v)).toArray := by
  simp [C8, List.map_set]
/-- bytes laid over others -/
def over (l : List UInt8) (i : Nat) (s : List UInt8) : List UInt8 := l.take i ++ s ++ l.drop (i + s.length)
theorem over_len (l : List UInt8) (i : Nat) (s : List UInt8) (h : i + s.length ≤ l.length) : (over l i s).length = l.length := by
  simp [over]; omega
theorem over_nil (l : List UInt8) (i : Nat) : over l i [] = l := by simp [over]
theorem C8_over (l : List UInt8) (i : Nat) (s : ByteArray) (h : i + s.size ≤ l.length) : (List.take i (C8 l) ++ (C8 s.data.toList ++ List.drop (i + s.size) (C8 l))).toArray = (C8 (over l i s.data.toList)).toArray := by
  have e : s.size = s.data.toList.length := by rw [Array.length_toList]; rfl
  rw [e]
  unfold over C8
  simp [List.map_append, List.map_take, List.map_drop]
theorem Turn.setRow {a w : World} {S : List Nat} {k : Nat} (h : Turn S a w) (cs : Array Value) (hk : k ∈ S) : Turn S a (w.setRow k cs) :=
  ⟨h.os, h.tape, h.output, by simpa [World.setRow] using h.size, fun i hi hn => (setRow_other w k i cs (by rintro rfl; exact hn hk)).trans (h.block i hi hn)⟩

end
theorem wpList_copy_str {ops : Array Oper} {rest : List Oper} {o : Oper} {a : Act} {Q : Exit → Act → World → Prop} {w : World} (hgd : o.guard = none) (d s : Operand) (dT sT : TypeId)
    (ho : o.op = .call { callee := .builtin .copy, args := #[d, s], argTypes := #[dT, sT] }) (elem : TypeId) (hu : Try.prog.underlying dT = some (.slice elem)) (hsz : (Try.prog.info? elem).map (·.size) = some 1)
    (dp : Option Addr) (dLen dCap : Nat) (str : ByteArray) (hd : a.eval d = .slice dp dLen dCap) (hs : a.eval s = .string str)
    (g off : Nat) (cur : Array Value) (t : TypeId) (hg : w.heap[g]? = some (.cells cur t (0, 0))) (hpos : 0 < str.size → dp = some ⟨g, off, none⟩ ∧ str.size ≤ dLen) (hfit : off + str.size ≤ cur.size)
    (h : wpList Try.prog ops Q rest (a.put o.dst (goInt str.size)) (w.setRow g (cur.toList.take off ++ C8 str.data.toList ++ cur.toList.drop (off + str.size)).toArray)) : wpList Try.prog ops Q (o :: rest) a w := by
  refine wpList_plain hgd fun K hK => ?_
  by_cases h0 : str.size = 0
  · have hrun := Go.Lib.run_copy_empty_string (P := Try.prog) w dT sT o.type elem dp dLen dCap str hu (by cases hq : Try.prog.info? elem with | none => simp [hq] at hsz | some x => rfl) h0
    have he : str.data.toList = [] := List.eq_nil_of_length_eq_zero (by rw [Array.length_toList]; exact h0)
    rw [h0, he] at h
    simp only [C8, List.map_nil, List.append_nil, Nat.add_zero, List.take_append_drop, Array.toArray_toList] at h
    rw [setRow_self w g cur t (0, 0) hg] at h
    unfold Oper.wp
    simp [execOp, ho, resolve, invoke, builtin, hd, hs, hrun, Result.andThen]
    exact hK _ _ h
  · obtain ⟨rfl, hle⟩ := hpos (by omega)
    have hrun := Go.Lib.run_copy_row_string (P := Try.prog) w dT sT o.type elem g off dLen dCap str cur t hu hsz hg hle hfit
    unfold Oper.wp
    simp [execOp, ho, resolve, invoke, builtin, hd, hs, hrun, Result.andThen]
    refine hK _ _ ?_
    simpa [C8, Go.Lib.byteCells] using h

section
variable {w : World} {b g d : Nat} {l : List UInt8}
/-- Fill: the rounds -/
theorem over_set (l : List UInt8) (i q : Nat) (v : UInt8) (h : i + q < l.length) : (over l i (List.replicate q v)).set (i + q) v = over l i (List.replicate (q + 1) v) := by
  apply List.ext_getElem?
  intro j
  simp only [over, List.length_replicate]
  rw [List.getElem?_set]
  simp only [List.length_append, List.length_take, List.length_drop, List.length_replicate]
  by_cases hj : i + q = j
  · subst hj
    rw [if_pos rfl, if_pos (by omega)]
    rw [List.getElem?_append_left (by simp; omega), List.getElem?_append_right (by simp; omega)]
    simp only [List.length_take]
    rw [List.getElem?_replicate, if_pos (by omega)]
  · rw [if_neg hj]
    by_cases h1 : j < i
    · rw [List.getElem?_append_left (by simp; omega), List.getElem?_append_left (by simp; omega), List.getElem?_append_left (by simp; omega), List.getElem?_append_left (by simp; omega)]
    · by_cases h2 : j < i + q
      · rw [List.getElem?_append_left (by simp; omega), List.getElem?_append_right (by simp; omega), List.getElem?_append_left (by simp; omega), List.getElem?_append_right (by simp; omega)]
        simp only [List.length_take, List.getElem?_replicate]
        rw [if_pos (by omega), if_pos (by omega)]
      · rw [List.getElem?_append_right (by simp; omega), List.getElem?_append_right (by simp; omega)]
        simp only [List.length_append, List.length_take, List.length_replicate, List.getElem?_drop]
        congr 1
        omega
end
end Go.Proofs.Ytojobfnbakiicaa
