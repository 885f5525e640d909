/- A buffer: its block, its bytes; Make, leave, Free, Len. A buffer's bytes: there, Get; the reference's Same. A buffer's At, Set, Put, Fill, Out. -/
import Derived.Test.YthljhebbblhakaaGreatDoorESync
import Derived.Deep.OwnRows
import Derived.Lib.BufferWrite
namespace Go.Proofs.YthljhebbblhakaaGreatDoor
open Go.RowKit
set_option linter.unusedVariables false

def bufOpen (g d n : Nat) : Array Value := #[.pointer (some ⟨g, 0, none⟩), .slice (some ⟨d, 0, none⟩) n n, .int .u32 0, .int .i32 0, .int .u32 0]
def bufGone (g : Nat) : Array Value := #[.pointer (some ⟨g, 0, none⟩), .slice none 0 0, .int .u32 1, .int .i32 0, .int .u32 0]
structure BufAt (w : World) (b g d : Nat) (l : List UInt8) : Prop where
  blk : Blk w b 137 (bufOpen g d l.length)
  row : Blk w d 5 (C8 l).toArray
def BufOff (w : World) (b g : Nat) : Prop := Blk w b 137 (bufGone g)

section
variable {w w' : World} {b g d : Nat} {l : List UInt8} {x : Led}
theorem BufAt.bd (h : BufAt w b g d l) : b ≠ d := Blk.ne_ h.blk h.row (by decide)
theorem BufAt.bg (h : BufAt w b g d l) (k : LedAt w g x) : b ≠ g := Blk.ne_ h.blk k (by decide)
theorem BufAt.dg (h : BufAt w b g d l) (k : LedAt w g x) : d ≠ g := Blk.ne_ h.row k (by decide)
theorem BufOff.bg (h : BufOff w b g) (k : LedAt w g x) : b ≠ g := Blk.ne_ h k (by decide)
theorem BufAt.turn {S : List Nat} (h : BufAt w b g d l) (k : Turn S w w') (hb : b ∉ S) (hd : d ∉ S) : BufAt w' b g d l := ⟨h.blk.turn k hb, h.row.turn k hd⟩
theorem made8 (n : Nat) : madeCells #[.int .u8 0] n = (C8 (List.replicate n 0)).toArray := by
  apply Array.ext'
  simp only [madeCells, C8, Array.toList_map, Array.toList_range, List.map_replicate]
  apply List.ext_getElem (by simp)
  intro i h1 h2
  simp [Nat.mod_one]
end

theorem bufMake_yes {w : World} {g : Nat} {x y : Led} {n : Nat} (h : LedAt w g x) (ok : x.Ok) (e : x.take n = (y, true)) (hn : n ≤ 1099511627776) :
    Calls Tryz.prog 55 #[.pointer (some ⟨g, 0, none⟩), .int .i64 (n : Int)] w fun e w' => ∃ b d, e = .returned (.tuple #[.pointer (some ⟨b, 0, none⟩), .int .i64 0]) ∧ BufAt w' b g d (List.replicate n 0) ∧ LedAt w' g y ∧ w.heap.size ≤ b ∧ w.heap.size ≤ d ∧ Turn [g] w w' := by
  have hmk := run_make_row' (P := Tryz.prog) 22 5 (.int .u8 0) 1 Tryz.underlying22 info8 rfl .i64 .i64 n (by omega) (by omega)
  have n0 : ¬ (n : Int) < 0 := by omega
  have HL := Lib.hid h
  have HK := Lib.hid ok
  have HE := Lib.hid e
  clear h ok e
  go_enter Tryz.func55, Tryz.ntmps55
  go_wp2_with (go_at_call 78; refine (take_at HL.out HK.out HE.out).mono ?_; rintro e w1 ⟨rfl, h1, b1⟩)
  go_ret2
  have s1 := b1.size
  refine ⟨w1.heap.size + 1, w1.heap.size, by simp, ⟨?_, ?_⟩, (Blk.alloc h1 _).alloc _, by omega, by omega, ((Turn.of_grown b1 (by simp)).alloc _).alloc _⟩
  · exact (Blk.new_at _ _ _ (by simp)).eq_ (by simp [bufOpen])
  · exact ((Blk.new _ _ _).alloc _).eq_ (made8 n)

theorem bufMake_no {w : World} {g : Nat} {x y : Led} {n : Int} (h : LedAt w g x) (ok : x.Ok) (e : x.take n = (y, false)) (hn : 0 ≤ n) :
    Calls Tryz.prog 55 #[.pointer (some ⟨g, 0, none⟩), .int .i64 n] w fun e w' => e = .returned (.tuple #[.pointer none, .int .i64 4]) ∧ LedAt w' g y ∧ Turn [g] w w' := by
  have n0 : ¬ n < 0 := by omega
  have HL := Lib.hid h
  have HK := Lib.hid ok
  have HE := Lib.hid e
  clear h ok e
  go_enter Tryz.func55, Tryz.ntmps55
  go_wp2_with (go_at_call 78; refine (take_at HL.out HK.out HE.out).mono ?_; rintro e w1 ⟨rfl, h1, b1⟩)
  go_ret2
  exact ⟨rfl, h1, Turn.of_grown b1 (by simp)⟩

/-- what leave hands to Do -/
theorem bufLeave1 {b p0 p1 p2 : Nat} {w : World} {cs : Array Value} {A : Option Addr} {n c : Nat} (h0 : Blk w p0 107 #[.pointer (some ⟨b, 0, none⟩)]) (hb : Blk w b 137 cs) (hv : cs[1]? = some (.slice A n c))
    (h1 : Blk w p1 22 #[.slice none 0 0]) (h2 : Blk w p2 4 #[.bool false]) :
    Calls Tryz.prog 109 #[.pointer (some ⟨p0, 0, none⟩), .pointer (some ⟨p1, 0, none⟩), .pointer (some ⟨p2, 0, none⟩)] w fun e w' => e = .returned (.tuple #[]) ∧
      Blk w' b 137 (cs.setIfInBounds 1 (.slice none 0 0)) ∧ Blk w' p1 22 #[.slice A n c] ∧ Blk w' p2 4 #[.bool true] ∧ Turn [b, p1, p2] w w' := by
  have n0 : p0 ≠ p1 := Blk.ne_ h0 h1 (by decide)
  have n1 : p0 ≠ p2 := Blk.ne_ h0 h2 (by decide)
  have n2 : b ≠ p1 := Blk.ne_ hb h1 (by decide)
  have n3 : b ≠ p2 := Blk.ne_ hb h2 (by decide)
  have n4 : p1 ≠ p2 := Blk.ne_ h1 h2 (by decide)
  have e0 : w.cell? ⟨p0, 0, none⟩ = some (.pointer (some ⟨b, 0, none⟩)) := h0.cell 0
  have e1 : w.cell? ⟨b, 1, none⟩ = some (.slice A n c) := (hb.cell 1).trans hv
  have e2 : w.cell? ⟨p1, 0, none⟩ = some (.slice none 0 0) := h1.cell 0
  have e3 : w.cell? ⟨p2, 0, none⟩ = some (.bool false) := h2.cell 0
  have z1 := hb.frozen 1
  have z2 := h1.frozen 0
  have z3 := h2.frozen 0
  have HB := Lib.hid hb
  have H1 := Lib.hid h1
  have H2 := Lib.hid h2
  clear h0 hb hv h1 h2
  go_enter Tryz.func109, Tryz.ntmps109
  go_region
  all_goals go_end0
  exact ⟨rfl, ((((Blk.far HB.out (p := ⟨p1, 0, none⟩) n2 _).far (p := ⟨p2, 0, none⟩) n3 _).set_ 1 _).drew), (((Blk.set_ H1.out 0 _).far (p := ⟨p2, 0, none⟩) n4 _).far (p := ⟨b, 1, none⟩) (fun e => n2 e.symm) _).drew,
    (((Blk.far H2.out (p := ⟨p1, 0, none⟩) (fun e => n4 e.symm) _).set_ 0 _).far (p := ⟨b, 1, none⟩) (fun e => n3 e.symm) _).drew, ((((Turn.refl _ _).set_ 0 _ (by simp)).set_ 0 _ (by simp)).set_ 1 _ (by simp)).drew⟩

/-- the world in which leave calls Do -/
def lW (w : World) (b : Nat) : World := ((w.alloc (.cells #[.pointer (some ⟨b, 0, none⟩)] 107)).alloc (.cells #[.slice none 0 0] 22)).alloc (.cells #[.bool false] 4)

set_option maxRecDepth 100000 in
theorem bufLeave_first {w : World} {b g d : Nat} {l : List UInt8} (h : BufAt w b g d l) :
    Calls Tryz.prog 84 #[.pointer (some ⟨b, 0, none⟩)] w fun e w' => e = .returned (.tuple #[.slice (some ⟨d, 0, none⟩) l.length l.length, .bool true]) ∧ BufOff w' b g ∧ Turn [b] w w' := by
  have hbl := Blk.lt h.blk
  have hmf : ∀ (fn : Fn) (first cap : Array Value) (w : World), (Instr.makeFunc fn first cap).run Tryz.prog w = .ok (.func fn first cap) w := fun _ _ _ _ => rfl
  have HB := Lib.hid h.blk
  clear h
  go_enter Tryz.func84, Tryz.ntmps84
  go_wp2_with fail
  show Calls _ _ _ (lW w b) _
  have hb3 : Blk (lW w b) b 137 (bufOpen g d l.length) := ((Blk.alloc HB.out _).alloc _).alloc _
  have h0 : Blk (lW w b) w.heap.size 107 #[.pointer (some ⟨b, 0, none⟩)] := ((Blk.new _ _ _).alloc _).alloc _
  have h1 : Blk (lW w b) (w.heap.size + 1) 22 #[.slice none 0 0] := (Blk.new_at _ _ _ (by simp)).alloc _
  have h2 : Blk (lW w b) (w.heap.size + 2) 4 #[.bool false] := Blk.new_at _ _ _ (by simp)
  have n0 : w.heap.size ≠ b := by omega
  have n1 : w.heap.size + 1 ≠ b := by omega
  have n2 : w.heap.size + 2 ≠ b := by omega
  have ho3 : Turn [b] w (lW w b) := (((Turn.refl _ _).alloc _).alloc _).alloc _
  refine (once_first b 2 109 _ _ (fun w' => Blk w' b 137 (((bufOpen g d l.length).setIfInBounds 3 (.int .i32 1)).setIfInBounds 1 (.slice none 0 0)) ∧ Blk w' (w.heap.size + 1) 22 #[.slice (some ⟨d, 0, none⟩) l.length l.length] ∧ Blk w' (w.heap.size + 2) 4 #[.bool true] ∧ Turn [b, w.heap.size + 1, w.heap.size + 2] (lW w b) w')
    (fun w => by kernel_rfl) (hb3.cell 2) (hb3.cell 3) (hb3.frozen 3) ?_ ?_).mono ?_
  · refine (bufLeave1 (cs := (bufOpen g d l.length).setIfInBounds 3 (.int .i32 1)) (Blk.far h0 (p := ⟨b, 3, none⟩) n0 _) (Blk.set_ hb3 3 _) rfl (Blk.far h1 (p := ⟨b, 3, none⟩) n1 _) (Blk.far h2 (p := ⟨b, 3, none⟩) n2 _)).mono ?_
    rintro e w' ⟨rfl, q1, q2, q3, q4⟩
    exact ⟨rfl, q1, q2, q3, ((Turn.refl _ _).set_ 3 _ (by simp)).trans q4⟩
  · rintro w' ⟨q1, q2, q3, q4⟩
    exact ⟨⟨_, q1.cell 2⟩, q1.frozen 2, q1.cell 3, q1.frozen 3⟩
  rintro e w' ⟨rfl, w2, ⟨q1, q2, q3, q4⟩, rfl⟩
  have hfin : BufOff (((w2.drew.setCell ⟨b, 2, none⟩ (.int .u32 1)).setCell ⟨b, 2 + 1, none⟩ (.int .i32 0))) b g := ((q1.drew.set_ 2 _).set_ 3 _).eq_ (by simp [bufOpen, bufGone])
  have r2 : Blk (((w2.drew.setCell ⟨b, 2, none⟩ (.int .u32 1)).setCell ⟨b, 2 + 1, none⟩ (.int .i32 0))) (w.heap.size + 1) 22 #[.slice (some ⟨d, 0, none⟩) l.length l.length] := (Blk.far q2.drew (p := ⟨b, 2, none⟩) n1 _).far (p := ⟨b, 3, none⟩) n1 _
  have r3 : Blk (((w2.drew.setCell ⟨b, 2, none⟩ (.int .u32 1)).setCell ⟨b, 2 + 1, none⟩ (.int .i32 0))) (w.heap.size + 2) 4 #[.bool true] := (Blk.far q3.drew (p := ⟨b, 2, none⟩) n2 _).far (p := ⟨b, 3, none⟩) n2 _
  have hon : Turn [b] w (((w2.drew.setCell ⟨b, 2, none⟩ (.int .u32 1)).setCell ⟨b, 2 + 1, none⟩ (.int .i32 0))) := ((ho3.next q4 (by simp)).drew.set_ 2 _ (by simp)).set_ 3 _ (by simp)
  generalize (((w2.drew.setCell ⟨b, 2, none⟩ (.int .u32 1)).setCell ⟨b, 2 + 1, none⟩ (.int .i32 0))) = wz at hfin r2 r3 hon ⊢
  have e2 : wz.cell? ⟨w.heap.size + 1, 0, none⟩ = some (.slice (some ⟨d, 0, none⟩) l.length l.length) := r2.cell 0
  have e3 : wz.cell? ⟨w.heap.size + 2, 0, none⟩ = some (.bool true) := r3.cell 0
  have z2 := r2.frozen 0
  have z3 := r3.frozen 0
  have s3 := r3.lt
  have HF := Lib.hid hfin
  have HO := Lib.hid hon
  have R2 := Lib.hid r2
  have R3 := Lib.hid r3
  clear hfin hon r2 r3 q1 q2 q3 q4 hb3 h0 h1 h2
  go_wp2_with fail
  go_region
  all_goals go_wp2_with fail
  have x2 : (((wz.setCell ⟨w.heap.size + 1, 0, none⟩ (.slice (some ⟨d, 0, none⟩) l.length l.length)).setCell ⟨w.heap.size + 1 + 1, 0, none⟩ (.bool true)).drew).cell? ⟨w.heap.size + 1, 0, none⟩ = some (.slice (some ⟨d, 0, none⟩) l.length l.length) :=
    Blk.cell (((Blk.set_ R2.out 0 (.slice (some ⟨d, 0, none⟩) l.length l.length)).far (p := ⟨w.heap.size + 1 + 1, 0, none⟩) (by simp) (.bool true)).drew) 0
  have x3 : (((wz.setCell ⟨w.heap.size + 1, 0, none⟩ (.slice (some ⟨d, 0, none⟩) l.length l.length)).setCell ⟨w.heap.size + 1 + 1, 0, none⟩ (.bool true)).drew).cell? ⟨w.heap.size + 1 + 1, 0, none⟩ = some (.bool true) :=
    Blk.cell (((Blk.far R3.out (p := ⟨w.heap.size + 1, 0, none⟩) (by simp) (.slice (some ⟨d, 0, none⟩) l.length l.length)).set_ 0 (.bool true)).drew) 0
  have hon2 : Turn [b] w (((wz.setCell ⟨w.heap.size + 1, 0, none⟩ (.slice (some ⟨d, 0, none⟩) l.length l.length)).setCell ⟨w.heap.size + 1 + 1, 0, none⟩ (.bool true)).drew) := ((HO.out.set_ 0 _ (.inr (by omega))).set_ 0 _ (.inr (by omega))).drew
  have hf2 : BufOff (((wz.setCell ⟨w.heap.size + 1, 0, none⟩ (.slice (some ⟨d, 0, none⟩) l.length l.length)).setCell ⟨w.heap.size + 1 + 1, 0, none⟩ (.bool true)).drew) b g := ((Blk.far HF.out (p := ⟨w.heap.size + 1, 0, none⟩) n1.symm _).far (p := ⟨w.heap.size + 1 + 1, 0, none⟩) n2.symm _).drew
  generalize (((wz.setCell ⟨w.heap.size + 1, 0, none⟩ (.slice (some ⟨d, 0, none⟩) l.length l.length)).setCell ⟨w.heap.size + 1 + 1, 0, none⟩ (.bool true)).drew) = we at x2 x3 hon2 hf2 ⊢
  exact bodyPost_ret (v := .tuple #[.slice (some ⟨d, 0, none⟩) l.length l.length, .bool true]) (by simp [results, Tryz.results84, go_sem, x2, x3]) rfl ⟨rfl, hf2, hon2⟩

def B0 : Led := ⟨0, 0, 5, 0, 0, 0, 0, 0, 0⟩
def B1 : Led := ⟨0, 0, 5, 0, 3, 3, 0, 0, 0⟩
def B2 : Led := ⟨0, 0, 5, 0, 0, 3, 0, 0, 0⟩
theorem B0.ok : B0.Ok := by constructor <;> decide
theorem B1.ok : B1.Ok := by constructor <;> decide
end Go.Proofs.YthljhebbblhakaaGreatDoor
namespace Go.Proofs.YthljhebbblhakaaGreatDoor
open Go.RowKit
set_option linter.unusedVariables false

section
variable {w : World} {b g d : Nat} {l : List UInt8}
theorem BufAt.byte (h : BufAt w b g d l) (i : Nat) (hi : i < l.length) : w.cell? ⟨d, i, none⟩ = some (.int .u8 (l[i].toNat : Int)) := by
  rw [h.row.cell i]
  simp [C8, List.getElem?_eq_getElem hi]

theorem bufThere_yes {i n : Nat} (h : BufAt w b g d l) (hin : i + n ≤ l.length) (hs : l.length ≤ 1099511627776) :
    Calls Tryz.prog 108 #[.pointer (some ⟨b, 0, none⟩), .int .i64 (i : Int), .int .i64 (n : Int)] w fun e w' => e = .returned (.bool true) ∧ w = w' := by
  have c1 : w.cell? ⟨b, 1, none⟩ = some (.slice (some ⟨d, 0, none⟩) l.length l.length) := h.blk.cell 1
  have hi := IntWalk.i64_in ((l.length : Int) - i) (by omega)
  have h0 : (0 : Int) ≤ (i : Int) := by omega
  have h1 : (0 : Int) ≤ (n : Int) := by omega
  have h2 : (i : Int) ≤ (l.length : Int) := by omega
  have h3 : (n : Int) ≤ (l.length : Int) - i := by omega
  clear h
  go_enter Tryz.func108, Tryz.ntmps108
  go_wp2_with fail
  go_ret
  exact ⟨ret1 (vbool (by first | (simp; done) | (simp; omega))), rfl⟩
end

end Go.Proofs.YthljhebbblhakaaGreatDoor
namespace Go.Proofs.YthljhebbblhakaaGreatDoor
open Go.RowKit
set_option linter.unusedVariables false
set_option linter.unusedSimpArgs false

section
variable {w : World} {b g d : Nat} {l : List UInt8}
theorem C8_set (l : List UInt8) (i : Nat) (v : UInt8) : (C8 l).toArray.setIfInBounds i (.int .u8 (v.toNat : Int)) = (C8 (l.set i v)).toArray := by
  simp [C8, List.map_set]
theorem BufAt.set1 (h : BufAt w b g d l) (i : Nat) (v : UInt8) : BufAt (w.setCell ⟨d, i, none⟩ (.int .u8 (v.toNat : Int))) b g d (l.set i v) :=
  ⟨(Blk.far h.blk (p := ⟨d, i, none⟩) h.bd _).eq_ (by simp), (h.row.set_ i _).eq_ (C8_set l i v)⟩
theorem bufSet_yes {i : Nat} (v : UInt8) (h : BufAt w b g d l) (hi : i < l.length) (hs : l.length ≤ 1099511627776) :
    Calls Tryz.prog 83 #[.pointer (some ⟨b, 0, none⟩), .int .i64 (i : Int), .int .u8 (v.toNat : Int)] w fun e w' => e = .returned (.bool true) ∧ BufAt w' b g d (l.set i v) ∧ Turn [d] w w' := by
  have c1 : w.cell? ⟨b, 1, none⟩ = some (.slice (some ⟨d, 0, none⟩) l.length l.length) := h.blk.cell 1
  have cb := h.byte i hi
  have zb := h.row.frozen i
  have h0 : (0 : Int) ≤ (i : Int) := by omega
  have h2 : (i : Int) < (l.length : Int) := by omega
  have HT := Lib.hid (bufThere_yes (i := i) (n := 1) h (by omega) hs)
  have HB := Lib.hid h
  clear h
  go_enter Tryz.func83, Tryz.ntmps83
  go_wp2_with (go_at_call 108; refine HT.out.mono ?_; rintro e w1 ⟨rfl, rfl⟩)
  go_ret
  exact ⟨rfl, HB.out.set1 i v, (Turn.refl _ _).set_ i _ (.inl (by simp))⟩
/-- bytes laid over others -/
def over (l : List UInt8) (i : Nat) (s : List UInt8) : List UInt8 := l.take i ++ s ++ l.drop (i + s.length)
theorem over_len (l : List UInt8) (i : Nat) (s : List UInt8) (h : i + s.length ≤ l.length) : (over l i s).length = l.length := by
  simp [over]; omega
theorem over_nil (l : List UInt8) (i : Nat) : over l i [] = l := by simp [over]
theorem Turn.setRow {a w : World} {S : List Nat} {k : Nat} (h : Turn S a w) (cs : Array Value) (hk : k ∈ S) : Turn S a (w.setRow k cs) :=
  ⟨h.os, h.tape, h.output, by simpa [World.setRow] using h.size, fun i hi hn => (setRow_other w k i cs (by rintro rfl; exact hn hk)).trans (h.block i hi hn)⟩

end
section
variable {w : World} {b g d : Nat} {l : List UInt8}
theorem bufOut_first (h : BufAt w b g d l) :
    Calls Tryz.prog 61 #[.pointer (some ⟨b, 0, none⟩)] w fun e w' => e = .returned (.tuple #[.slice (some ⟨d, 0, none⟩) l.length l.length, .bool true]) ∧ BufOff w' b g ∧ Turn [b] w w' := by
  have HB := Lib.hid h
  clear h
  go_enter Tryz.func61, Tryz.ntmps61
  go_wp2_with (go_at_call 84; refine (bufLeave_first HB.out).mono ?_; rintro e w1 ⟨rfl, p1, p2⟩)
  go_ret2
  exact ⟨rfl, p1, p2⟩
end
end Go.Proofs.YthljhebbblhakaaGreatDoor
