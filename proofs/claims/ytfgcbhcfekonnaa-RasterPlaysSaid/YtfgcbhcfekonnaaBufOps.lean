/- A buffer's At, Set, Put, Fill, Out. -/
import Derived.Test.YtfgcbhcfekonnaaBufGet
import Derived.Lib.BufferWrite
namespace Go.Proofs.Ytfgcbhcfekonnaa
open Go.RowKit
set_option linter.unusedVariables false
set_option linter.unusedSimpArgs false

section
variable {w : World} {b g d : Nat} {l : List UInt8}
theorem C8_set (l : List UInt8) (i : Nat) (v : UInt8) : (C8 l).toArray.setIfInBounds i (.int .u8 (v.toNat : Int)) = (C8 (l.set i v)).toArray := by
  simp [C8, List.map_set]
theorem BufAt.set1 (h : BufAt w b g d l) (i : Nat) (v : UInt8) : BufAt (w.setCell ⟨d, i, none⟩ (.int .u8 (v.toNat : Int))) b g d (l.set i v) :=
  ⟨(Blk.far h.blk (p := ⟨d, i, none⟩) h.bd _).eq_ (by simp), (h.row.set_ i _).eq_ (C8_set l i v)⟩
theorem bufSet_yes {i : Nat} (v : UInt8) (h : BufAt w b g d l) (hi : i < l.length) (hs : l.length ≤ 1099511627776) :
    Calls Try.prog 80 #[.pointer (some ⟨b, 0, none⟩), .int .i64 (i : Int), .int .u8 (v.toNat : Int)] w fun e w' => e = .returned (.bool true) ∧ BufAt w' b g d (l.set i v) ∧ Turn [d] w w' := by
  have c1 : w.cell? ⟨b, 1, none⟩ = some (.slice (some ⟨d, 0, none⟩) l.length l.length) := h.blk.cell 1
  have cb := h.byte i hi
  have zb := h.row.frozen i
  have h0 : (0 : Int) ≤ (i : Int) := by omega
  have h2 : (i : Int) < (l.length : Int) := by omega
  have HT := Lib.hid (bufThere_yes (i := i) (n := 1) h (by omega) hs)
  have HB := Lib.hid h
  clear h
  go_enter Try.func80, Try.ntmps80
  go_wp2_with (go_at_call 105; refine HT.out.mono ?_; rintro e w1 ⟨rfl, rfl⟩)
  go_ret
  exact ⟨rfl, HB.out.set1 i v, (Turn.refl _ _).set_ i _ (.inl (by simp))⟩
theorem bufSet_no {i x : Int} (hth : Calls Try.prog 105 #[.pointer (some ⟨b, 0, none⟩), .int .i64 i, .int .i64 1] w fun e w' => e = .returned (.bool false) ∧ w = w') :
    Calls Try.prog 80 #[.pointer (some ⟨b, 0, none⟩), .int .i64 i, .int .u8 x] w fun e w' => e = .returned (.bool false) ∧ w = w' := by
  have HT := Lib.hid hth
  clear hth
  go_enter Try.func80, Try.ntmps80
  go_wp2_with (go_at_call 105; refine HT.out.mono ?_; rintro e w1 ⟨rfl, rfl⟩)
  go_ret
  exact ⟨rfl, rfl⟩

/-- bytes laid over others -/
def over (l : List UInt8) (i : Nat) (s : List UInt8) : List UInt8 := l.take i ++ s ++ l.drop (i + s.length)
theorem over_len (l : List UInt8) (i : Nat) (s : List UInt8) (h : i + s.length ≤ l.length) : (over l i s).length = l.length := by
  simp [over]; omega
theorem over_nil (l : List UInt8) (i : Nat) : over l i [] = l := by simp [over]
theorem C8_over (l : List UInt8) (i : Nat) (s : ByteArray) (h : i + s.size ≤ l.length) : (List.take i (C8 l) ++ (C8 s.data.toList ++ List.drop (i + s.size) (C8 l))).toArray = (C8 (over l i s.data.toList)).toArray := by
  have e : s.size = s.data.toList.length := by rw [Array.length_toList]; rfl
  rw [e]
  unfold over C8
  simp [List.map_append, List.map_take, List.map_drop]
theorem Turn.setRow {a w : World} {S : List Nat} {k : Nat} (h : Turn S a w) (cs : Array Value) (hk : k ∈ S) : Turn S a (w.setRow k cs) :=
  ⟨h.os, h.tape, h.output, by simpa [World.setRow] using h.size, fun i hi hn => (setRow_other w k i cs (by rintro rfl; exact hn hk)).trans (h.block i hi hn)⟩

end
theorem wpList_copy_str {ops : Array Oper} {rest : List Oper} {o : Oper} {a : Act} {Q : Exit → Act → World → Prop} {w : World} (hgd : o.guard = none) (d s : Operand) (dT sT : TypeId)
    (ho : o.op = .call { callee := .builtin .copy, args := #[d, s], argTypes := #[dT, sT] }) (elem : TypeId) (hu : Try.prog.underlying dT = some (.slice elem)) (hsz : (Try.prog.info? elem).map (·.size) = some 1)
    (dp : Option Addr) (dLen dCap : Nat) (str : ByteArray) (hd : a.eval d = .slice dp dLen dCap) (hs : a.eval s = .string str)
    (g off : Nat) (cur : Array Value) (t : TypeId) (hg : w.heap[g]? = some (.cells cur t (0, 0))) (hpos : 0 < str.size → dp = some ⟨g, off, none⟩ ∧ str.size ≤ dLen) (hfit : off + str.size ≤ cur.size)
    (h : wpList Try.prog ops Q rest (a.put o.dst (goInt str.size)) (w.setRow g (cur.toList.take off ++ C8 str.data.toList ++ cur.toList.drop (off + str.size)).toArray)) : wpList Try.prog ops Q (o :: rest) a w := by
  refine wpList_plain hgd fun K hK => ?_
  by_cases h0 : str.size = 0
  · have hrun := Go.Lib.run_copy_empty_string (P := Try.prog) w dT sT o.type elem dp dLen dCap str hu (by cases hq : Try.prog.info? elem with | none => simp [hq] at hsz | some x => rfl) h0
    have he : str.data.toList = [] := List.eq_nil_of_length_eq_zero (by rw [Array.length_toList]; exact h0)
    rw [h0, he] at h
    simp only [C8, List.map_nil, List.append_nil, Nat.add_zero, List.take_append_drop, Array.toArray_toList] at h
    rw [setRow_self w g cur t (0, 0) hg] at h
    unfold Oper.wp
    simp [execOp, ho, resolve, invoke, builtin, hd, hs, hrun, Result.andThen]
    exact hK _ _ h
  · obtain ⟨rfl, hle⟩ := hpos (by omega)
    have hrun := Go.Lib.run_copy_row_string (P := Try.prog) w dT sT o.type elem g off dLen dCap str cur t hu hsz hg hle hfit
    unfold Oper.wp
    simp [execOp, ho, resolve, invoke, builtin, hd, hs, hrun, Result.andThen]
    refine hK _ _ ?_
    simpa [C8, Go.Lib.byteCells] using h

section
variable {w : World} {b g d : Nat} {l : List UInt8}
theorem bufPut_yes {i : Nat} (s : ByteArray) (h : BufAt w b g d l) (hi : i + s.size ≤ l.length) (hs : l.length ≤ 1099511627776) :
    Calls Try.prog 106 #[.pointer (some ⟨b, 0, none⟩), .int .i64 (i : Int), .string s] w fun e w' => e = .returned (.bool true) ∧ BufAt w' b g d (over l i s.data.toList) ∧ Turn [d] w w' := by
  have c1 : w.cell? ⟨b, 1, none⟩ = some (.slice (some ⟨d, 0, none⟩) l.length l.length) := h.blk.cell 1
  have h0 : (0 : Int) ≤ (i : Int) := by omega
  have h2 : (i : Int) ≤ (l.length : Int) := by omega
  have HT := Lib.hid (bufThere_yes (i := i) (n := s.size) h hi hs)
  have HB := Lib.hid h
  have hcur : (C8 l).toArray.size = l.length := by simp [C8]
  have HI := Lib.hid hi
  have HFin : Hid (BufAt (w.setRow d (List.take i (C8 l) ++ (C8 s.data.toList ++ List.drop (i + s.size) (C8 l))).toArray) b g d (over l i s.data.toList) ∧ Turn [d] w (w.setRow d (List.take i (C8 l) ++ (C8 s.data.toList ++ List.drop (i + s.size) (C8 l))).toArray)) := by
    refine Lib.hid ⟨⟨?_, ?_⟩, (Turn.refl _ _).setRow _ (by simp)⟩
    · have hb : Blk (w.setRow d _) b _ _ := (setRow_other w d b (List.take i (C8 l) ++ (C8 s.data.toList ++ List.drop (i + s.size) (C8 l))).toArray h.bd).trans h.blk
      refine hb.eq_ ?_
      have e : s.size = s.data.toList.length := by rw [Array.length_toList]; rfl
      rw [over_len _ _ _ (by rw [← e]; exact hi)]
    · have hr := setRow_heap w d (C8 l).toArray (List.take i (C8 l) ++ (C8 s.data.toList ++ List.drop (i + s.size) (C8 l))).toArray 5 (0, 0) h.row
      rw [C8_over l i s hi] at hr ⊢
      exact hr
  clear h hi
  by_cases hil : i = l.length
  · subst hil
    have hz : s.size = 0 := by have := HI.out; omega
    have HT0 : Hid (Calls Try.prog 105 #[.pointer (some ⟨b, 0, none⟩), .int .i64 ((l.length : Nat) : Int), .int .i64 0] w fun e w' => e = .returned (.bool true) ∧ w = w') := Lib.hid (by have h := HT.out; rw [hz] at h; exact h)
    go_enter Try.func106, Try.ntmps106
    go_wp2_with (first
      | (go_at_call 105; refine HT0.out.mono ?_; rintro e w1 ⟨rfl, rfl⟩)
      | (refine wpList_copy_str rfl (.tmp 18) (.tmp 19) 44 9 rfl 5 Try.underlying44 (by kernel_rfl) _ _ _ s rfl rfl d l.length (C8 l).toArray 5 HB.out.row (fun h => by omega) (by rw [hcur]; exact HI.out) ?_))
    go_ret
    exact ⟨rfl, by have h := HFin.out; rw [hz, Nat.add_zero] at h; exact h⟩
  · have hil2 : ¬ l.length = i := fun e => hil e.symm
    have hil3 : i < l.length := by have := HI.out; omega
    have hil4 : ¬ l.length ≤ i := by omega
    have hil5 : ¬ l.length - i = 0 := by omega
    go_enter Try.func106, Try.ntmps106
    go_wp2_with (first
      | (go_at_call 105; refine HT.out.mono ?_; rintro e w1 ⟨rfl, rfl⟩)
      | (refine wpList_copy_str rfl (.tmp 18) (.tmp 19) 44 9 rfl 5 Try.underlying44 (by kernel_rfl) _ _ _ s rfl rfl d i (C8 l).toArray 5 HB.out.row (fun h => ⟨rfl, by have := HI.out; omega⟩) (by rw [hcur]; exact HI.out) ?_))
    go_ret
    exact ⟨rfl, HFin.out⟩
theorem bufPut_no {i : Int} {s : ByteArray} (hth : Calls Try.prog 105 #[.pointer (some ⟨b, 0, none⟩), .int .i64 i, .int .i64 (s.size : Int)] w fun e w' => e = .returned (.bool false) ∧ w = w') :
    Calls Try.prog 106 #[.pointer (some ⟨b, 0, none⟩), .int .i64 i, .string s] w fun e w' => e = .returned (.bool false) ∧ w = w' := by
  have HT := Lib.hid hth
  clear hth
  go_enter Try.func106, Try.ntmps106
  go_wp2_with (go_at_call 105; refine HT.out.mono ?_; rintro e w1 ⟨rfl, rfl⟩)
  go_ret
  exact ⟨rfl, rfl⟩
theorem bufOut_first (h : BufAt w b g d l) :
    Calls Try.prog 84 #[.pointer (some ⟨b, 0, none⟩)] w fun e w' => e = .returned (.tuple #[.slice (some ⟨d, 0, none⟩) l.length l.length, .bool true]) ∧ BufOff w' b g ∧ Turn [b] w w' := by
  have HB := Lib.hid h
  clear h
  go_enter Try.func84, Try.ntmps84
  go_wp2_with (go_at_call 107; refine (bufLeave_first HB.out).mono ?_; rintro e w1 ⟨rfl, p1, p2⟩)
  go_ret2
  exact ⟨rfl, p1, p2⟩
theorem bufOut_done (h : BufOff w b g) :
    Calls Try.prog 84 #[.pointer (some ⟨b, 0, none⟩)] w fun e w' => e = .returned (.tuple #[.slice none 0 0, .bool false]) ∧ Below w.heap.size w w' := by
  have HB := Lib.hid h
  clear h
  go_enter Try.func84, Try.ntmps84
  go_wp2_with (go_at_call 107; refine (bufLeave_done HB.out).mono ?_; rintro e w1 ⟨rfl, p1⟩)
  go_ret2
  exact ⟨rfl, p1⟩
/-- Fill: the rounds -/
theorem over_set (l : List UInt8) (i q : Nat) (v : UInt8) (h : i + q < l.length) : (over l i (List.replicate q v)).set (i + q) v = over l i (List.replicate (q + 1) v) := by
  apply List.ext_getElem?
  intro j
  simp only [over, List.length_replicate]
  rw [List.getElem?_set]
  simp only [List.length_append, List.length_take, List.length_drop, List.length_replicate]
  by_cases hj : i + q = j
  · subst hj
    rw [if_pos rfl, if_pos (by omega)]
    rw [List.getElem?_append_left (by simp; omega), List.getElem?_append_right (by simp; omega)]
    simp only [List.length_take]
    rw [List.getElem?_replicate, if_pos (by omega)]
  · rw [if_neg hj]
    by_cases h1 : j < i
    · rw [List.getElem?_append_left (by simp; omega), List.getElem?_append_left (by simp; omega), List.getElem?_append_left (by simp; omega), List.getElem?_append_left (by simp; omega)]
    · by_cases h2 : j < i + q
      · rw [List.getElem?_append_left (by simp; omega), List.getElem?_append_right (by simp; omega), List.getElem?_append_left (by simp; omega), List.getElem?_append_right (by simp; omega)]
        simp only [List.length_take, List.getElem?_replicate]
        rw [if_pos (by omega), if_pos (by omega)]
      · rw [List.getElem?_append_right (by simp; omega), List.getElem?_append_right (by simp; omega)]
        simp only [List.length_append, List.length_take, List.length_replicate, List.getElem?_drop]
        congr 1
        omega
end
end Go.Proofs.Ytfgcbhcfekonnaa
