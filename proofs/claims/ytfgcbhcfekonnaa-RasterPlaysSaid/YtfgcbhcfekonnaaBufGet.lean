/- A buffer's bytes: there, Get; the reference's Same. -/
import Derived.Test.YtfgcbhcfekonnaaBuf
namespace Go.Proofs.Ytfgcbhcfekonnaa
open Go.RowKit
set_option linter.unusedVariables false

/-- string(x) of bytes that lie in cells -/
theorem wpList_convert_cells {ops : Array Oper} {rest : List Oper} {o : Oper} {a : Act} {Q : Exit → Act → World → Prop} {w : World} (hgd : o.guard = none) (x : Operand) (dst : TypeId) (hd : Try.prog.underlying dst = some .string)
    (ho : o.op = .convert 44 dst x) (g i n c : Nat) (hx : a.eval x = .slice (some ⟨g, i, none⟩) n c) (l : List UInt8) (hl : l.length = n) (hc : ∀ j (hj : j < l.length), w.cell? ⟨g, i + j, none⟩ = some (.int .u8 (l[j].toNat : Int)))
    (h : wpList Try.prog ops Q rest (a.put o.dst (.string (strOf l))) w) : wpList Try.prog ops Q (o :: rest) a w := by
  refine wpList_plain hgd fun K hK => ?_
  subst hl
  have hrun := run_convert_bytes_back w 44 dst 5 ⟨g, i, none⟩ c l Try.underlying44 Try.underlying5 hd (fun j hj => by
    have e : (⟨g, i, none⟩ : Addr).add j = ⟨g, i + j, none⟩ := by
      unfold Addr.add
      split
      · rename_i h; subst h; rfl
      · rfl
    rw [e]
    exact hc j hj)
  unfold Oper.wp
  simp [execOp, ho, hx, hrun, Result.andThen]
  exact hK _ _ h

section
variable {w : World} {b g d : Nat} {l : List UInt8}
theorem BufAt.byte (h : BufAt w b g d l) (i : Nat) (hi : i < l.length) : w.cell? ⟨d, i, none⟩ = some (.int .u8 (l[i].toNat : Int)) := by
  rw [h.row.cell i]
  simp [C8, List.getElem?_eq_getElem hi]

theorem bufThere_yes {i n : Nat} (h : BufAt w b g d l) (hin : i + n ≤ l.length) (hs : l.length ≤ 1099511627776) :
    Calls Try.prog 105 #[.pointer (some ⟨b, 0, none⟩), .int .i64 (i : Int), .int .i64 (n : Int)] w fun e w' => e = .returned (.bool true) ∧ w = w' := by
  have c1 : w.cell? ⟨b, 1, none⟩ = some (.slice (some ⟨d, 0, none⟩) l.length l.length) := h.blk.cell 1
  have hi := IntWalk.i64_in ((l.length : Int) - i) (by omega)
  have h0 : (0 : Int) ≤ (i : Int) := by omega
  have h1 : (0 : Int) ≤ (n : Int) := by omega
  have h2 : (i : Int) ≤ (l.length : Int) := by omega
  have h3 : (n : Int) ≤ (l.length : Int) - i := by omega
  clear h
  go_enter Try.func105, Try.ntmps105
  go_wp2_with fail
  go_ret
  exact ⟨ret1 (vbool (by first | (simp; done) | (simp; omega))), rfl⟩
theorem bufThere_no {i n : Int} (h : BufAt w b g d l) (hin : i < 0 ∨ n < 0 ∨ (l.length : Int) < i + n) (hs : l.length ≤ 1099511627776) (fi : -9223372036854775808 ≤ i ∧ i ≤ 9223372036854775807) (fn : -9223372036854775808 ≤ n ∧ n ≤ 9223372036854775807) :
    Calls Try.prog 105 #[.pointer (some ⟨b, 0, none⟩), .int .i64 i, .int .i64 n] w fun e w' => e = .returned (.bool false) ∧ w = w' := by
  have c1 : w.cell? ⟨b, 1, none⟩ = some (.slice (some ⟨d, 0, none⟩) l.length l.length) := h.blk.cell 1
  clear h
  by_cases h0 : 0 ≤ i
  · by_cases h1 : 0 ≤ n
    · by_cases h2 : i ≤ (l.length : Int)
      · have hi := IntWalk.i64_in ((l.length : Int) - i) (by omega)
        have h3 : ¬ n ≤ (l.length : Int) - i := by omega
        clear hin
        go_enter Try.func105, Try.ntmps105
        go_wp2_with fail
        go_ret
        exact ⟨rfl, rfl⟩
      · clear hin
        go_enter Try.func105, Try.ntmps105
        go_wp2_with fail
        go_ret
        exact ⟨rfl, rfl⟩
    · clear hin
      go_enter Try.func105, Try.ntmps105
      go_wp2_with fail
      go_ret
      exact ⟨rfl, rfl⟩
  · clear hin
    go_enter Try.func105, Try.ntmps105
    go_wp2_with fail
    go_ret
    exact ⟨rfl, rfl⟩
theorem bufThere_off {i n : Int} (h : BufOff w b g) :
    Calls Try.prog 105 #[.pointer (some ⟨b, 0, none⟩), .int .i64 i, .int .i64 n] w fun e w' => e = .returned (.bool false) ∧ w = w' := by
  have c1 : w.cell? ⟨b, 1, none⟩ = some (.slice none 0 0) := Blk.cell h 1
  clear h
  go_enter Try.func105, Try.ntmps105
  go_wp2_with fail
  go_ret
  exact ⟨rfl, rfl⟩

set_option maxRecDepth 100000 in
theorem bufGet_yes {i n : Nat} (h : BufAt w b g d l) (hin : i + n ≤ l.length) (hs : l.length ≤ 1099511627776) :
    Calls Try.prog 81 #[.pointer (some ⟨b, 0, none⟩), .int .i64 (i : Int), .int .i64 (n : Int)] w fun e w' => e = .returned (.tuple #[.string (strOf ((l.drop i).take n)), .bool true]) ∧ w = w' := by
  have c1 : w.cell? ⟨b, 1, none⟩ = some (.slice (some ⟨d, 0, none⟩) l.length l.length) := h.blk.cell 1
  have hi := IntWalk.i64_in ((i : Int) + n) (by omega)
  have hlen : ((l.drop i).take n).length = n := by simp; omega
  have hcells : ∀ j (hj : j < ((l.drop i).take n).length), w.cell? ⟨d, i + j, none⟩ = some (.int .u8 (((l.drop i).take n)[j].toNat : Int)) := by
    intro j hj
    rw [h.byte (i + j) (by omega)]
    simp
  have h0 : (0 : Int) ≤ (i : Int) := by omega
  have h1 : (i : Int) ≤ (i : Int) + n := by omega
  have h2 : (i : Int) + n ≤ (l.length : Int) := by omega
  have HC := Lib.hid hcells
  have HT := Lib.hid (bufThere_yes h hin hs)
  clear h hcells
  by_cases hil : i = l.length
  · subst hil
    obtain rfl : n = 0 := by omega
    rw [List.take_zero]
    go_enter Try.func81, Try.ntmps81
    go_wp2_with (first
      | (go_at_call 105; refine HT.out.mono ?_; rintro e w1 ⟨rfl, rfl⟩)
      | (refine wpList_convert_cells rfl (.tmp 21) 9 Try.underlying9 rfl d 0 0 0 rfl [] rfl (by intro j hj; simp at hj) ?_))
    go_ret2
    exact ⟨rfl, rfl⟩
  · have hil2 : ¬ l.length = i := fun e => hil e.symm
    have hil3 : i < l.length := by omega
    have hil4 : ¬ l.length ≤ i := by omega
    have hil5 : ¬ l.length - i = 0 := by omega
    go_enter Try.func81, Try.ntmps81
    go_wp2_with (first
      | (go_at_call 105; refine HT.out.mono ?_; rintro e w1 ⟨rfl, rfl⟩)
      | (refine wpList_convert_cells rfl (.tmp 21) 9 Try.underlying9 rfl d i (i + n - i) (l.length - i) rfl _ (by rw [hlen]; omega) HC.out ?_))
    go_ret2
    exact ⟨rfl, rfl⟩
theorem bufGet_no {i n : Int} (hth : Calls Try.prog 105 #[.pointer (some ⟨b, 0, none⟩), .int .i64 i, .int .i64 n] w fun e w' => e = .returned (.bool false) ∧ w = w') :
    Calls Try.prog 81 #[.pointer (some ⟨b, 0, none⟩), .int .i64 i, .int .i64 n] w fun e w' => e = .returned (.tuple #[.string ⟨#[]⟩, .bool false]) ∧ w = w' := by
  have HT := Lib.hid hth
  clear hth
  go_enter Try.func81, Try.ntmps81
  go_wp2_with (go_at_call 105; refine HT.out.mono ?_; rintro e w1 ⟨rfl, rfl⟩)
  go_ret2
  exact ⟨rfl, rfl⟩
end

theorem bufGet_all {w : World} {b g d n : Nat} (h : BufAt w b g d (List.replicate n 0)) (hn : n ≤ 1000000) :
    Calls Try.prog 81 #[.pointer (some ⟨b, 0, none⟩), .int .i64 0, .int .i64 (n : Int)] w fun e w' => e = .returned (.tuple #[.string (strOf (List.replicate n 0)), .bool true]) ∧ w = w' := by
  have := bufGet_yes (i := 0) (n := n) h (by simp) (by first | (simp; done) | (simp; omega))
  rw [List.drop_zero, List.take_of_length_le (by simp)] at this
  exact this
end Go.Proofs.Ytfgcbhcfekonnaa
