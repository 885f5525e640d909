/- fault: the law FaultParses: its ways. -/
import Derived.Test.YtakhobmoalfaoaaDoorFltP
import Derived.Test.YtakhobmoalfaoaaDoorFltH
namespace Go.Proofs.YtakhobmoalfaoaaDoor
open Go.RowKit
set_option linter.unusedVariables false
set_option linter.unusedSimpArgs false

theorem faultParses_long {s : ByteArray} {w : World} (hL : LibW w) (h : 100 < s.size) : Calls Tryd.prog 4 #[.string s] w fun e w' => e = .returned (.bool true) ∧ Below w.heap.size w w' := by
  have hI : (100 : Int) < (s.size : Int) := by omega
  have HA := Lib.hid (awake3 hL)
  clear h hL
  go_enter Tryd.func4, Tryd.ntmps4
  go_wp2_with (go_at_call 12; refine HA.out.mono ?_; rintro e w1 ⟨rfl, b1⟩)
  go_ret
  exact ⟨rfl, b1⟩
set_option maxHeartbeats 1000000 in
theorem faultParses_none {s : ByteArray} {w : World} (hL : LibW w) (h : s.size ≤ 100)
    (hP : ∀ w, LibW w → Calls Tryd.prog 13 #[.string s] w fun e w' => e = .returned (.tuple #[.agg #[.int .i64 0, .int .i64 0, .int .i64 0], .int .i64 6]) ∧ Below w.heap.size w w')
    (hR : ∀ w, Calls Tryd.prog 15 #[.string s] w fun e w' => e = .returned (.tuple #[.int .i64 0, .int .i64 0, .int .i64 0, .bool false]) ∧ Below w.heap.size w w') :
    Calls Tryd.prog 4 #[.string s] w fun e w' => e = .returned (.bool true) ∧ Below w.heap.size w w' := by
  have hI : ¬ (100 : Int) < (s.size : Int) := by omega
  have HA := Lib.hid (fun w (h : LibW w) => awake3 (w := w) h)
  have HP := Lib.hid (hP w hL)
  have HL := Lib.hid hL
  have HR := Lib.hid hR
  clear h hL hP hR
  go_enter Tryd.func4, Tryd.ntmps4
  go_wp2_with (first
    | (go_at_call 12; refine (HA.out _ L3).mono ?_; rintro e w3 ⟨rfl, b3⟩)
    | (go_at_call 15; refine (HR.out _).mono ?_; rintro e w2 ⟨rfl, b2⟩; have P2 : Blk w2 w1.heap.size 23 #[.int .i64 0, .int .i64 0, .int .i64 0] := Blk.below (Blk.new _ _ _) b2 (by simp); have B2 := below_next (b1.alloc b1.size (.cells #[.int .i64 0, .int .i64 0, .int .i64 0] 23)) b2; have L3 := ((HL.out.below b1).below ((Below.refl _ _).alloc (Nat.le_refl _) (.cells #[.int .i64 0, .int .i64 0, .int .i64 0] 23))).below b2; have p0 : w2.cell? ⟨w1.heap.size, 0, none⟩ = some (.int .i64 0) := Blk.cell P2 0; have p1 : w2.cell? ⟨w1.heap.size, 1, none⟩ = some (.int .i64 0) := Blk.cell P2 1; have p2 : w2.cell? ⟨w1.heap.size, 2, none⟩ = some (.int .i64 0) := Blk.cell P2 2)
    | (go_at_call 13; refine HP.out.mono ?_; rintro e w1 ⟨rfl, b1⟩))
  go_ret
  exact ⟨rfl, below_next B2 b3⟩
set_option maxHeartbeats 1000000 in
theorem faultParses_some {s : ByteArray} {w : World} {a b c : Int} (hL : LibW w) (h : s.size ≤ 100)
    (hP : ∀ w, LibW w → Calls Tryd.prog 13 #[.string s] w fun e w' => e = .returned (.tuple #[.agg #[.int .i64 a, .int .i64 b, .int .i64 c], .int .i64 0]) ∧ Below w.heap.size w w')
    (hR : ∀ w, Calls Tryd.prog 15 #[.string s] w fun e w' => e = .returned (.tuple #[.int .i64 a, .int .i64 b, .int .i64 c, .bool true]) ∧ Below w.heap.size w w') :
    Calls Tryd.prog 4 #[.string s] w fun e w' => e = .returned (.bool true) ∧ Below w.heap.size w w' := by
  have hI : ¬ (100 : Int) < (s.size : Int) := by omega
  have HA := Lib.hid (fun w (h : LibW w) => awake3 (w := w) h)
  have HP := Lib.hid (hP w hL)
  have HL := Lib.hid hL
  have HR := Lib.hid hR
  clear h hL hP hR
  go_enter Tryd.func4, Tryd.ntmps4
  go_wp2_with (first
    | (go_at_call 12; refine (HA.out _ L3).mono ?_; rintro e w3 ⟨rfl, b3⟩)
    | (go_at_call 15; refine (HR.out _).mono ?_; rintro e w2 ⟨rfl, b2⟩; have P2 : Blk w2 w1.heap.size 23 #[.int .i64 a, .int .i64 b, .int .i64 c] := Blk.below (Blk.new _ _ _) b2 (by simp); have B2 := below_next (b1.alloc b1.size (.cells #[.int .i64 a, .int .i64 b, .int .i64 c] 23)) b2; have L3 := ((HL.out.below b1).below ((Below.refl _ _).alloc (Nat.le_refl _) (.cells #[.int .i64 a, .int .i64 b, .int .i64 c] 23))).below b2; have p0 : w2.cell? ⟨w1.heap.size, 0, none⟩ = some (.int .i64 a) := Blk.cell P2 0; have p1 : w2.cell? ⟨w1.heap.size, 1, none⟩ = some (.int .i64 b) := Blk.cell P2 1; have p2 : w2.cell? ⟨w1.heap.size, 2, none⟩ = some (.int .i64 c) := Blk.cell P2 2)
    | (go_at_call 13; refine HP.out.mono ?_; rintro e w1 ⟨rfl, b1⟩))
  go_ret
  exact ⟨rfl, below_next B2 b3⟩
end Go.Proofs.YtakhobmoalfaoaaDoor
