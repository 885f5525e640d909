/- A raster's at, Set, swap, Get. -/
import Derived.Test.YtfgcbhcfekonnaaRas
import Derived.Test.YtfgcbhcfekonnaaBufOps
namespace Go.Proofs.Ytfgcbhcfekonnaa
open Go.RowKit
set_option linter.unusedVariables false
set_option linter.unusedSimpArgs false

section
variable {w : World} {r g b d : Nat} {l : List UInt8} {x y : Led}
theorem rasAt_yes {X Y W H p i : Nat} (h : RasAt w r g b (W : Int) (H : Int) true) (hX : X < W) (hY : Y < H) (hp : Y * W = p) (hi : 4 * (p + X) = i) (hp1 : p ≤ 1073741824) (hW : W ≤ 16384) (hH : H ≤ 16384) :
    Calls Try.prog 78 #[.pointer (some ⟨r, 0, none⟩), .int .i64 (X : Int), .int .i64 (Y : Int)] w fun e w' => e = .returned (.tuple #[.int .i64 (i : Int), .bool true]) ∧ w = w' := by
  have c1 := h.w_
  have c2 := h.h_
  have c4 := h.o_
  have hwp : IntKind.i64.wrap ((Y : Int) * (W : Int)) = (p : Int) := by
    have e : (Y : Int) * (W : Int) = (p : Int) := by rw [← hp]; exact (Int.natCast_mul Y W).symm
    rw [e]
    exact IntWalk.i64_in _ (by omega)
  have x0 : ¬ (X : Int) < 0 := by omega
  have x1 : ¬ (W : Int) ≤ (X : Int) := by omega
  have y0 : ¬ (Y : Int) < 0 := by omega
  have y1 : ¬ (H : Int) ≤ (Y : Int) := by omega
  have HI := Lib.hid hi
  have hXb : X ≤ 16384 := by omega
  clear h hp hi
  go_enter Try.func78, Try.ntmps78
  go_wp2_with fail
  go_ret2
  exact ⟨by rw [← HI.out]; first | rfl | (congr 4; done) | (congr 4; omega), rfl⟩
theorem rasAt_no {X Y W H : Int} {o : Bool} (h : RasAt w r g b W H o) (hno : ¬ (o = true ∧ 0 ≤ X ∧ X < W ∧ 0 ≤ Y ∧ Y < H)) :
    Calls Try.prog 78 #[.pointer (some ⟨r, 0, none⟩), .int .i64 X, .int .i64 Y] w fun e w' => e = .returned (.tuple #[.int .i64 0, .bool false]) ∧ w = w' := by
  have c1 := h.w_
  have c2 := h.h_
  have c4 := h.o_
  clear h
  cases o
  · go_enter Try.func78, Try.ntmps78
    go_wp2_with fail
    go_ret2
    exact ⟨rfl, rfl⟩
  · by_cases x0 : X < 0
    · go_enter Try.func78, Try.ntmps78
      go_wp2_with fail
      go_ret2
      exact ⟨rfl, rfl⟩
    by_cases x1 : W ≤ X
    · go_enter Try.func78, Try.ntmps78
      go_wp2_with fail
      go_ret2
      exact ⟨rfl, rfl⟩
    by_cases y0 : Y < 0
    · go_enter Try.func78, Try.ntmps78
      go_wp2_with fail
      go_ret2
      exact ⟨rfl, rfl⟩
    have y1 : H ≤ Y := by
      refine Int.not_lt.1 fun q => hno ⟨rfl, by omega, by omega, by omega, q⟩
    clear hno
    go_enter Try.func78, Try.ntmps78
    go_wp2_with fail
    go_ret2
    exact ⟨rfl, rfl⟩

theorem size_list' (x : ByteArray) : x.size = x.data.toList.length := by rw [Array.length_toList]; rfl
theorem strOf_data (l : List UInt8) : (strOf l).data.toList = l := strOf_toList l
/-- two stretches against each other -/
def swapL (l : List UInt8) (a c n : Nat) : List UInt8 := over (over l a ((l.drop c).take n)) c ((l.drop a).take n)
theorem cut_len {l : List UInt8} {a n : Nat} (h : a + n ≤ l.length) : ((l.drop a).take n).length = n := by simp; omega
set_option maxRecDepth 100000 in
theorem rasSwap_yes {W H : Int} {o : Bool} {a c n : Nat} (h : RasAt w r g b W H o) (hm : BufAt w b g d l) (ha : a + n ≤ l.length) (hc : c + n ≤ l.length) (hs : l.length ≤ 1099511627776) (hrd : r ≠ d) :
    Calls Try.prog 83 #[.pointer (some ⟨r, 0, none⟩), .int .i64 (a : Int), .int .i64 (c : Int), .int .i64 (n : Int)] w fun e w' => e = .returned (.tuple #[]) ∧ BufAt w' b g d (swapL l a c n) ∧ Turn [d] w w' := by
  have c3 := h.b_
  have G1 := Lib.hid (bufGet_yes (i := a) (n := n) hm ha hs)
  have G2 := Lib.hid (bufGet_yes (i := c) (n := n) hm hc hs)
  have e1 := cut_len ha
  have e2 := cut_len hc
  obtain ⟨s1, hs1⟩ : ∃ s1, s1 = strOf ((l.drop a).take n) := ⟨_, rfl⟩
  obtain ⟨s2, hs2⟩ : ∃ s2, s2 = strOf ((l.drop c).take n) := ⟨_, rfl⟩
  rw [← hs1] at G1
  rw [← hs2] at G2
  have z1 : s1.size = n := by rw [hs1, strOf_size, e1]
  have z2 : s2.size = n := by rw [hs2, strOf_size, e2]
  have HR := Lib.hid h
  have HM := Lib.hid hm
  have HZ := Lib.hid (And.intro z1 z2)
  have HS := Lib.hid (And.intro hs1 hs2)
  have hl2 : (over l a s2.data.toList).length = l.length := over_len _ _ _ (by rw [← size_list', z2]; exact ha)
  have HL2 := Lib.hid hl2
  have HA := Lib.hid (And.intro ha hc)
  clear h hm e1 e2 hs1 hs2 z1 z2 hl2 ha hc
  go_enter Try.func83, Try.ntmps83
  go_wp2_with (first
    | (go_at_call 106; have := k3; refine (bufPut_yes (i := c) s1 m1 (by rw [HL2.out, HZ.out.1]; exact HA.out.2) (by rw [HL2.out]; exact hs)).mono ?_; rintro e w2 ⟨rfl, m2, t2⟩)
    | (go_at_call 106; refine (bufPut_yes (i := a) s2 HM.out (by rw [HZ.out.2]; exact HA.out.1) hs).mono ?_; rintro e w1 ⟨rfl, m1, t1⟩; have k3 := trivial; have d3 : w1.cell? ⟨r, 3, none⟩ = some (.pointer (some ⟨b, 0, none⟩)) := Blk.cell (Blk.turn HR.out t1 (by simpa using hrd)) 3)
    | (go_at_call 81; have := k1; refine (G2.out).mono ?_; rintro e w9 ⟨rfl, rfl⟩)
    | (go_at_call 81; refine (G1.out).mono ?_; rintro e w9 ⟨rfl, rfl⟩; have k1 := trivial))
  go_end0
  exact ⟨rfl, by have m3 := m2; rw [HS.out.1, HS.out.2, strOf_data, strOf_data] at m3; exact m3, t1.trans t2⟩

/-- four bytes of a colour -/
def quad (c0 c1 c2 c3 : UInt8) : List UInt8 := [c0, c1, c2, c3]
theorem idx4 (p q r s : Value) : (∀ w, (Instr.index 141 (.agg #[p, q, r, s]) (.int .i64 0)).run Try.prog w = .ok p w) ∧ (∀ w, (Instr.index 141 (.agg #[p, q, r, s]) (.int .i64 1)).run Try.prog w = .ok q w) ∧ (∀ w, (Instr.index 141 (.agg #[p, q, r, s]) (.int .i64 2)).run Try.prog w = .ok r w) ∧ (∀ w, (Instr.index 141 (.agg #[p, q, r, s]) (.int .i64 3)).run Try.prog w = .ok s w) :=
  ⟨fun _ => by kernel_rfl, fun _ => by kernel_rfl, fun _ => by kernel_rfl, fun _ => by kernel_rfl⟩
end
end Go.Proofs.Ytfgcbhcfekonnaa
