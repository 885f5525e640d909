/- Words for memory: bytes that a call owns, appends to them, strings of bytes, blocks that are known whole. -/
import Derived.Test.YtgmgcfjllijhgaaGreatProg
import Derived.WalkKit
import Derived.WalkSpells
import Derived.WalkLawsBesides
import Derived.Lib.Hide
import Derived.Laws.OwnMore
import Derived.Deep.AppendLies
import Derived.Deep.Draws
import Derived.Deep.Onto
import Derived.Deep.AppendSrc
import Derived.Deep.QuietTactic
import Derived.BigQuiet
import Derived.Deep.LoopGhost
import Derived.Deep.CutBlock
import Derived.Deep.DeepCutAuto
import Derived.Deep.Light
import Derived.Deep.RegionWith
namespace Go.Proofs.YtgmgcfjllijhgaaGreat
open Go.RowKit
set_option linter.unusedVariables false

theorem ret1 {a b : Value} (h : a = b) : Ending.returned a = .returned b := by rw [h]
theorem ret2 {a b c d : Value} (h : a = b) (k : c = d) : Ending.returned (.tuple #[a, c]) = .returned (.tuple #[b, d]) := by rw [h, k]
theorem vint {k : IntKind} {a b : Int} (h : a = b) : Value.int k a = .int k b := by rw [h]
theorem vbool {a b : Bool} (h : a = b) : Value.bool a = .bool b := by rw [h]
theorem vstr {a b : ByteArray} (h : a = b) : Value.string a = .string b := by rw [h]

/-- bytes as cells -/
def C8 (l : List UInt8) : List Value := l.map fun b => Value.int .u8 (b.toNat : Int)
/-- the slice value v owns the bytes l, in a block from base on -/
def Owns8 (w : World) (base : Nat) (v : Value) (l : List UInt8) : Prop := w.ownsRow base 5 1 v l.length (C8 l)
/-- a string of bytes -/
def strOf (l : List UInt8) : ByteArray := ⟨l.toArray⟩

theorem strOf_toList (l : List UInt8) : (strOf l).data.toList = l := by simp [strOf]
theorem strOf_of (s : ByteArray) : strOf s.data.toList = s := by
 cases s with | mk d => simp [strOf]
theorem strOf_inj {a b : List UInt8} (h : strOf a = strOf b) : a = b := by
 have := congrArg (fun s : ByteArray => s.data.toList) h
 simpa [strOf] using this

section
variable {w w' : World} {base : Nat} {v : Value} {l : List UInt8}
theorem Owns8.nil (w : World) (base : Nat) : Owns8 w base (.slice none 0 0) [] := World.ownsRow_nil _ _ _ _
theorem Owns8.alloc (h : Owns8 w base v l) (o : Obj) : Owns8 (w.alloc o) base v l := World.ownsRow.alloc h o
theorem Owns8.drew (h : Owns8 w base v l) : Owns8 w.drew base v l := h
theorem Owns8.drewN (h : Owns8 w base v l) (n : Nat) : Owns8 (w.drewN n) base v l := h
theorem Owns8.below (h : Owns8 w base v l) {a : World} {B : Nat} (hb : Below B a w) (hB : B ≤ base) (hw : base ≤ w.heap.size) (hg : w.grownBy w' v.ownBlock) : Below B a w' :=
 hb.grown hg (Nat.le_trans hB hw) fun k hk => Nat.le_trans hB (World.ownsRow.lt h k hk).1
end

theorem ofNat8 {n : Nat} (h : n < 256) : ((UInt8.ofNat n).toNat : Int) = (n : Int) := by
 simp [Nat.mod_eq_of_lt h]
theorem cell_new (w : World) (cs : Array Value) (t : TypeId) (i n : Nat) (h : n = w.heap.size) : (w.alloc (.cells cs t)).cell? ⟨n, i, none⟩ = cs[i]? := by
 subst h
 exact cell_of_row _ _ _ _ _ _ (heap_alloc_new w _)
theorem below_set {B : Nat} {a w : World} {b i : Nat} {u : Value} (h : Below B a w) (hb : B ≤ b) : Below B a (w.setCell ⟨b, i, none⟩ u) := h.setCell (p := ⟨b, i, none⟩) hb u
/-- the box of a result, behind a call that only made memory -/
theorem below_box {w w1 : World} {o : Obj} (hb : Below (w.alloc o).heap.size (w.alloc o) w1) : Below w.heap.size w w1 :=
 ((Below.refl _ _).alloc (Nat.le_refl _) _).trans (hb.mono (by simp))
theorem info8 : (Tryz.prog.info? 5).map (fun i => (i.zero, i.size, i.bytes)) = some (some (.int .u8 0), 1, 1) := by kernel_rfl

/-- string(v) of bytes that the call owns -/
theorem run_convert_owned {w : World} {base : Nat} {v : Value} {l : List UInt8} (h : Owns8 w base v l) (dst : TypeId) (hd : Tryz.prog.underlying dst = some .string) :
  (convert 30 dst v).run Tryz.prog w = .ok (.string (strOf l)) w := by
 rcases h.2 with ⟨rfl, hn⟩ | ⟨g, cap, cur, rfl, hg, hh, hnc, _, _, ht⟩
 ·have : l = [] := List.eq_nil_of_length_eq_zero hn
  subst this
  exact run_convert_bytes_nil w 30 5 Tryz.underlying30 Tryz.underlying5 0 0 dst hd
 ·refine run_convert_bytes_back w 30 dst 5 _ cap l Tryz.underlying30 Tryz.underlying5 hd fun j hj => ?_
  exact World.ownsRow.cells h (g := g) rfl j _ (by simp [C8, List.getElem?_eq_getElem hj])

theorem wpList_convert_owned {ops : Array Oper} {rest : List Oper} {o : Oper} {a : Act} {Q : Exit → Act → World → Prop} {w : World} (hgd : o.guard = none) (x : Operand) (dst : TypeId) (hd : Tryz.prog.underlying dst = some .string)
  (ho : o.op = .convert 30 dst x) (base : Nat) (v : Value) (l : List UInt8) (hx : a.eval x = v) (hown : Owns8 w base v l)
  (h : wpList Tryz.prog ops Q rest (a.put o.dst (.string (strOf l))) w) : wpList Tryz.prog ops Q (o :: rest) a w := by
 refine wpList_plain hgd fun K hK => ?_
 have hrun := run_convert_owned hown dst hd
 unfold Oper.wp
 simp [execOp, ho, hx, hrun, Result.andThen]
 exact hK _ _ h

/-- a byte of a string, as the walk writes it, is the list's -/
theorem get_list {s : ByteArray} {k : Nat} (h : k < s.size) : s.data.toList[k]? = some s[k] := by
 rw [List.getElem?_eq_getElem (by simpa using h)]
 simp [ByteArray.getElem_eq_getElem_data]
theorem list_len (s : ByteArray) : s.data.toList.length = s.size := by simp
theorem extract_one {s : ByteArray} {k : Nat} (h : k < s.size) : s.extract k (k + 1) = strOf [s[k]] := by
 have e : (s.extract k (k + 1)).data.toList = [s[k]] := by
  rw [ByteArray.data_extract, Array.toList_extract, List.extract_eq_take_drop]
  have hl : k < s.data.toList.length := by rw [list_len]; exact h
  rw [List.drop_eq_getElem_cons hl]
  simp [ByteArray.getElem_eq_getElem_data]
 rw [← strOf_of (s.extract k (k + 1)), e]
end Go.Proofs.YtgmgcfjllijhgaaGreat
