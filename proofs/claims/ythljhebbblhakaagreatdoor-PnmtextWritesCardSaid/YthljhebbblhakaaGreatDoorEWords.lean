/- Words for memory: bytes that a call owns, appends to them, strings of bytes, blocks that are known whole. -/
import Derived.Test.YthljhebbblhakaaGreatDoorProg
import Derived.WalkKit
import Derived.WalkSpells
import Derived.WalkLawsBesides
import Derived.Lib.Hide
import Derived.Laws.OwnMore
import Derived.Deep.AppendLies
import Derived.Deep.Draws
import Derived.Deep.Onto
import Derived.Deep.AppendSrc
import Derived.Deep.QuietTactic
import Derived.BigQuiet
import Derived.Deep.LoopGhost
import Derived.Deep.CutBlock
import Derived.Deep.DeepCutAuto
import Derived.Deep.Light
import Derived.Deep.RegionWith
namespace Go.Proofs.YthljhebbblhakaaGreatDoor
open Go.RowKit
set_option linter.unusedVariables false

theorem ret1 {a b : Value} (h : a = b) : Ending.returned a = .returned b := by rw [h]
theorem ret2 {a b c d : Value} (h : a = b) (k : c = d) : Ending.returned (.tuple #[a, c]) = .returned (.tuple #[b, d]) := by rw [h, k]
theorem vint {k : IntKind} {a b : Int} (h : a = b) : Value.int k a = .int k b := by rw [h]
theorem vbool {a b : Bool} (h : a = b) : Value.bool a = .bool b := by rw [h]
/-- bytes as cells -/
def C8 (l : List UInt8) : List Value := l.map fun b => Value.int .u8 (b.toNat : Int)
/-- the slice value v owns the bytes l, in a block from base on -/
def Owns8 (w : World) (base : Nat) (v : Value) (l : List UInt8) : Prop := w.ownsRow base 5 1 v l.length (C8 l)
/-- a string of bytes -/
def strOf (l : List UInt8) : ByteArray := ⟨l.toArray⟩

theorem strOf_of (s : ByteArray) : strOf s.data.toList = s := by
  cases s with | mk d => simp [strOf]
theorem strOf_inj {a b : List UInt8} (h : strOf a = strOf b) : a = b := by
  have := congrArg (fun s : ByteArray => s.data.toList) h
  simpa [strOf] using this

section
variable {w w' : World} {base : Nat} {v : Value} {l : List UInt8}
theorem Owns8.nil (w : World) (base : Nat) : Owns8 w base (.slice none 0 0) [] := World.ownsRow_nil _ _ _ _
theorem Owns8.alloc (h : Owns8 w base v l) (o : Obj) : Owns8 (w.alloc o) base v l := World.ownsRow.alloc h o
theorem Owns8.drew (h : Owns8 w base v l) : Owns8 w.drew base v l := h
theorem Owns8.drewN (h : Owns8 w base v l) (n : Nat) : Owns8 (w.drewN n) base v l := h
theorem Owns8.below (h : Owns8 w base v l) {a : World} {B : Nat} (hb : Below B a w) (hB : B ≤ base) (hw : base ≤ w.heap.size) (hg : w.grownBy w' v.ownBlock) : Below B a w' :=
  hb.grown hg (Nat.le_trans hB hw) fun k hk => Nat.le_trans hB (World.ownsRow.lt h k hk).1
end

theorem ofNat8 {n : Nat} (h : n < 256) : ((UInt8.ofNat n).toNat : Int) = (n : Int) := by
  simp [Nat.mod_eq_of_lt h]
theorem cell_new (w : World) (cs : Array Value) (t : TypeId) (i n : Nat) (h : n = w.heap.size) : (w.alloc (.cells cs t)).cell? ⟨n, i, none⟩ = cs[i]? := by
  subst h
  exact cell_of_row _ _ _ _ _ _ (heap_alloc_new w _)
theorem below_set {B : Nat} {a w : World} {b i : Nat} {u : Value} (h : Below B a w) (hb : B ≤ b) : Below B a (w.setCell ⟨b, i, none⟩ u) := h.setCell (p := ⟨b, i, none⟩) hb u
/-- the box of a result, behind a call that only made memory -/
theorem below_box {w w1 : World} {o : Obj} (hb : Below (w.alloc o).heap.size (w.alloc o) w1) : Below w.heap.size w w1 :=
  ((Below.refl _ _).alloc (Nat.le_refl _) _).trans (hb.mono (by simp))
theorem info8 : (Tryz.prog.info? 5).map (fun i => (i.zero, i.size, i.bytes)) = some (some (.int .u8 0), 1, 1) := by kernel_rfl

/-- append of one byte, laid in a new cell, onto bytes that the call owns -/
theorem wpList_append_byte {ops : Array Oper} {rest : List Oper} {o : Oper} {a : Act} {Q : Exit → Act → World → Prop} {w : World} (hgd : o.guard = none) (s x : Operand)
    (ho : o.op = .call { callee := .builtin .append, args := #[s, x], argTypes := #[22, 22] })
    (base : Nat) (v : Value) (l : List UInt8) (hs : a.eval s = v) (hown : Owns8 w base v l)
    (g : Addr) (hx : a.eval x = .slice (some g) 1 1) (b : UInt8) (hc : w.cell? g = some (.int .u8 (b.toNat : Int)))
    (hlen : l.length < 1099511627776) (hbase : base ≤ w.heap.size)
    (h : ∀ v' w', Owns8 w' base v' (l ++ [b]) → Below base w w' → w.grownBy w' v.ownBlock → wpList Tryz.prog ops Q rest (a.put o.dst v') w') : wpList Tryz.prog ops Q (o :: rest) a w := by
  obtain ⟨i0, hi, hz0, hz1, hz2⟩ := info_parts info8
  refine wpList_append_own (P := Tryz.prog) w hgd s x 22 ho base 5 i0 (.int .u8 0) 1 1 Tryz.underlying22 hi hz0 hz1 hz2 rfl (by decide) v l.length (C8 l) hs hown g 1 1 [.int .u8 (b.toNat : Int)] hx rfl ?_ ?_ (by unfold maxLen; omega) (by omega) hbase ?_
  · intro j u hj
    cases j with
    | zero => simp at hj; subst hj; simpa [Addr.add] using hc
    | succ j => simp at hj
  · intro u hu; simp at hu; subst hu; rfl
  · intro v' w' h1 h2 _
    refine h v' w' ?_ (hown.below (Below.refl _ _) (Nat.le_refl _) hbase h2) h2
    show World.ownsRow _ _ _ _ _ _ _
    simpa [C8] using h1

/-- a byte of a string, as the walk writes it, is the list's -/
theorem get_list {s : ByteArray} {k : Nat} (h : k < s.size) : s.data.toList[k]? = some s[k] := by
  rw [List.getElem?_eq_getElem (by simpa using h)]
  simp [ByteArray.getElem_eq_getElem_data]
theorem list_len (s : ByteArray) : s.data.toList.length = s.size := by simp
theorem extract_one {s : ByteArray} {k : Nat} (h : k < s.size) : s.extract k (k + 1) = strOf [s[k]] := by
  have e : (s.extract k (k + 1)).data.toList = [s[k]] := by
    rw [ByteArray.data_extract, Array.toList_extract, List.extract_eq_take_drop]
    have hl : k < s.data.toList.length := by rw [list_len]; exact h
    rw [List.drop_eq_getElem_cons hl]
    simp [ByteArray.getElem_eq_getElem_data]
  rw [← strOf_of (s.extract k (k + 1)), e]
end Go.Proofs.YthljhebbblhakaaGreatDoor
