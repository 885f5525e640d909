/- The law TgaBack. -/
import Derived.Test.YtlehkgkomjojmaaGreatGTgaKf
import Derived.Test.YtlehkgkomjojmaaGreatGTgaOp
import Derived.Deep.CutRange
namespace Go.Proofs.YtlehkgkomjojmaaGreat
open Go.RowKit
set_option linter.unusedVariables false
set_option linter.unusedSimpArgs false

set_option maxRecDepth 100000 in
set_option maxHeartbeats 4000000 in
theorem tgaBack_large {w : World} {pk lf tp : Bool} {nm : ByteArray} {a : Option Addr} {m c : Nat} {b al W H : Int} (h : 1000 < m ∨ 60 < W ∨ 60 < H ∨ 300 < nm.size) :
  Calls Tryz.prog 5 #[.agg #[.int .i64 W, .int .i64 H, .slice a m c], .agg #[.bool pk, .int .i64 b, .int .i64 al, .bool lf, .bool tp, .string nm]] w fun e w' => e = .returned (.bool true) ∧ Below w.heap.size w w' := by
 by_cases g1 : 1000 < m
 ·have hI : (1000 : Int) < (m : Int) := by omega
  clear h g1
  have I1 : IB ((w.alloc (.cells #[.int .i64 W, .int .i64 H, .slice a m c] 24)).alloc (.cells #[.bool pk, .int .i64 b, .int .i64 al, .bool lf, .bool tp, .string nm] 56)) w.heap.size W H a m c := Blk.alloc (IB.new w W H a m c) _
  have O1 : Blk ((w.alloc (.cells #[.int .i64 W, .int .i64 H, .slice a m c] 24)).alloc (.cells #[.bool pk, .int .i64 b, .int .i64 al, .bool lf, .bool tp, .string nm] 56)) (w.heap.size + 1) 56 #[.bool pk, .int .i64 b, .int .i64 al, .bool lf, .bool tp, .string nm] := Blk.new_at _ _ _ (by simp)
  have B1 : Below w.heap.size w ((w.alloc (.cells #[.int .i64 W, .int .i64 H, .slice a m c] 24)).alloc (.cells #[.bool pk, .int .i64 b, .int .i64 al, .bool lf, .bool tp, .string nm] 56)) := ((Below.refl w.heap.size w).alloc (Nat.le_refl _) _).alloc (by simp) _
  go_enter Tryz.func5, Tryz.ntmps5
  go_upto_region 1 with fail
  generalize (w.alloc (.cells #[.int .i64 W, .int .i64 H, .slice a m c] 24)).alloc (.cells #[.bool pk, .int .i64 b, .int .i64 al, .bool lf, .bool tp, .string nm] 56) = w1 at I1 O1 B1 ⊢
  obtain ⟨e0, e1, e2, v0, v1, v2, il⟩ := IB.all (I1)
  have o0 : w1.cell? ⟨w.heap.size + 1, 0, none⟩ = some (.bool pk) := Blk.cell O1 0
  have o1 : w1.cell? ⟨w.heap.size + 1, 1, none⟩ = some (.int .i64 b) := Blk.cell O1 1
  have o2 : w1.cell? ⟨w.heap.size + 1, 2, none⟩ = some (.int .i64 al) := Blk.cell O1 2
  have o3 : w1.cell? ⟨w.heap.size + 1, 3, none⟩ = some (.bool lf) := Blk.cell O1 3
  have o4 : w1.cell? ⟨w.heap.size + 1, 4, none⟩ = some (.bool tp) := Blk.cell O1 4
  have o5 : w1.cell? ⟨w.heap.size + 1, 5, none⟩ = some (.string nm) := Blk.cell O1 5
  go_wp2_with (go_at_call 22; refine (awake19_any _).mono ?_; rintro e w9 ⟨rfl, b9⟩)
  go_ret
  exact ⟨rfl, below_next B1 b9⟩
 by_cases g2 : 60 < W
 ·have hI : ¬ (1000 : Int) < (m : Int) := by omega
  have h2 : 60 < W := by omega
  clear h g1 g2
  have I1 : IB ((w.alloc (.cells #[.int .i64 W, .int .i64 H, .slice a m c] 24)).alloc (.cells #[.bool pk, .int .i64 b, .int .i64 al, .bool lf, .bool tp, .string nm] 56)) w.heap.size W H a m c := Blk.alloc (IB.new w W H a m c) _
  have O1 : Blk ((w.alloc (.cells #[.int .i64 W, .int .i64 H, .slice a m c] 24)).alloc (.cells #[.bool pk, .int .i64 b, .int .i64 al, .bool lf, .bool tp, .string nm] 56)) (w.heap.size + 1) 56 #[.bool pk, .int .i64 b, .int .i64 al, .bool lf, .bool tp, .string nm] := Blk.new_at _ _ _ (by simp)
  have B1 : Below w.heap.size w ((w.alloc (.cells #[.int .i64 W, .int .i64 H, .slice a m c] 24)).alloc (.cells #[.bool pk, .int .i64 b, .int .i64 al, .bool lf, .bool tp, .string nm] 56)) := ((Below.refl w.heap.size w).alloc (Nat.le_refl _) _).alloc (by simp) _
  go_enter Tryz.func5, Tryz.ntmps5
  go_upto_region 1 with fail
  generalize (w.alloc (.cells #[.int .i64 W, .int .i64 H, .slice a m c] 24)).alloc (.cells #[.bool pk, .int .i64 b, .int .i64 al, .bool lf, .bool tp, .string nm] 56) = w1 at I1 O1 B1 ⊢
  obtain ⟨e0, e1, e2, v0, v1, v2, il⟩ := IB.all (I1)
  have o0 : w1.cell? ⟨w.heap.size + 1, 0, none⟩ = some (.bool pk) := Blk.cell O1 0
  have o1 : w1.cell? ⟨w.heap.size + 1, 1, none⟩ = some (.int .i64 b) := Blk.cell O1 1
  have o2 : w1.cell? ⟨w.heap.size + 1, 2, none⟩ = some (.int .i64 al) := Blk.cell O1 2
  have o3 : w1.cell? ⟨w.heap.size + 1, 3, none⟩ = some (.bool lf) := Blk.cell O1 3
  have o4 : w1.cell? ⟨w.heap.size + 1, 4, none⟩ = some (.bool tp) := Blk.cell O1 4
  have o5 : w1.cell? ⟨w.heap.size + 1, 5, none⟩ = some (.string nm) := Blk.cell O1 5
  go_wp2_with (go_at_call 22; refine (awake19_any _).mono ?_; rintro e w9 ⟨rfl, b9⟩)
  go_ret
  exact ⟨rfl, below_next B1 b9⟩
 by_cases g3 : 60 < H
 ·have hI : ¬ (1000 : Int) < (m : Int) := by omega
  have h2 : ¬ 60 < W := by omega
  have h3 : 60 < H := by omega
  clear h g1 g2 g3
  have I1 : IB ((w.alloc (.cells #[.int .i64 W, .int .i64 H, .slice a m c] 24)).alloc (.cells #[.bool pk, .int .i64 b, .int .i64 al, .bool lf, .bool tp, .string nm] 56)) w.heap.size W H a m c := Blk.alloc (IB.new w W H a m c) _
  have O1 : Blk ((w.alloc (.cells #[.int .i64 W, .int .i64 H, .slice a m c] 24)).alloc (.cells #[.bool pk, .int .i64 b, .int .i64 al, .bool lf, .bool tp, .string nm] 56)) (w.heap.size + 1) 56 #[.bool pk, .int .i64 b, .int .i64 al, .bool lf, .bool tp, .string nm] := Blk.new_at _ _ _ (by simp)
  have B1 : Below w.heap.size w ((w.alloc (.cells #[.int .i64 W, .int .i64 H, .slice a m c] 24)).alloc (.cells #[.bool pk, .int .i64 b, .int .i64 al, .bool lf, .bool tp, .string nm] 56)) := ((Below.refl w.heap.size w).alloc (Nat.le_refl _) _).alloc (by simp) _
  go_enter Tryz.func5, Tryz.ntmps5
  go_upto_region 1 with fail
  generalize (w.alloc (.cells #[.int .i64 W, .int .i64 H, .slice a m c] 24)).alloc (.cells #[.bool pk, .int .i64 b, .int .i64 al, .bool lf, .bool tp, .string nm] 56) = w1 at I1 O1 B1 ⊢
  obtain ⟨e0, e1, e2, v0, v1, v2, il⟩ := IB.all (I1)
  have o0 : w1.cell? ⟨w.heap.size + 1, 0, none⟩ = some (.bool pk) := Blk.cell O1 0
  have o1 : w1.cell? ⟨w.heap.size + 1, 1, none⟩ = some (.int .i64 b) := Blk.cell O1 1
  have o2 : w1.cell? ⟨w.heap.size + 1, 2, none⟩ = some (.int .i64 al) := Blk.cell O1 2
  have o3 : w1.cell? ⟨w.heap.size + 1, 3, none⟩ = some (.bool lf) := Blk.cell O1 3
  have o4 : w1.cell? ⟨w.heap.size + 1, 4, none⟩ = some (.bool tp) := Blk.cell O1 4
  have o5 : w1.cell? ⟨w.heap.size + 1, 5, none⟩ = some (.string nm) := Blk.cell O1 5
  go_wp2_with (go_at_call 22; refine (awake19_any _).mono ?_; rintro e w9 ⟨rfl, b9⟩)
  go_ret
  exact ⟨rfl, below_next B1 b9⟩
 have g4 : 300 < nm.size := by omega
 have hI : ¬ (1000 : Int) < (m : Int) := by omega
 have h2 : ¬ 60 < W := by omega
 have h3 : ¬ 60 < H := by omega
 have h4 : (300 : Int) < (nm.size : Int) := by omega
 clear h g1 g2 g3 g4
 have I1 : IB ((w.alloc (.cells #[.int .i64 W, .int .i64 H, .slice a m c] 24)).alloc (.cells #[.bool pk, .int .i64 b, .int .i64 al, .bool lf, .bool tp, .string nm] 56)) w.heap.size W H a m c := Blk.alloc (IB.new w W H a m c) _
 have O1 : Blk ((w.alloc (.cells #[.int .i64 W, .int .i64 H, .slice a m c] 24)).alloc (.cells #[.bool pk, .int .i64 b, .int .i64 al, .bool lf, .bool tp, .string nm] 56)) (w.heap.size + 1) 56 #[.bool pk, .int .i64 b, .int .i64 al, .bool lf, .bool tp, .string nm] := Blk.new_at _ _ _ (by simp)
 have B1 : Below w.heap.size w ((w.alloc (.cells #[.int .i64 W, .int .i64 H, .slice a m c] 24)).alloc (.cells #[.bool pk, .int .i64 b, .int .i64 al, .bool lf, .bool tp, .string nm] 56)) := ((Below.refl w.heap.size w).alloc (Nat.le_refl _) _).alloc (by simp) _
 go_enter Tryz.func5, Tryz.ntmps5
 go_upto_region 1 with fail
 generalize (w.alloc (.cells #[.int .i64 W, .int .i64 H, .slice a m c] 24)).alloc (.cells #[.bool pk, .int .i64 b, .int .i64 al, .bool lf, .bool tp, .string nm] 56) = w1 at I1 O1 B1 ⊢
 obtain ⟨e0, e1, e2, v0, v1, v2, il⟩ := IB.all (I1)
 have o0 : w1.cell? ⟨w.heap.size + 1, 0, none⟩ = some (.bool pk) := Blk.cell O1 0
 have o1 : w1.cell? ⟨w.heap.size + 1, 1, none⟩ = some (.int .i64 b) := Blk.cell O1 1
 have o2 : w1.cell? ⟨w.heap.size + 1, 2, none⟩ = some (.int .i64 al) := Blk.cell O1 2
 have o3 : w1.cell? ⟨w.heap.size + 1, 3, none⟩ = some (.bool lf) := Blk.cell O1 3
 have o4 : w1.cell? ⟨w.heap.size + 1, 4, none⟩ = some (.bool tp) := Blk.cell O1 4
 have o5 : w1.cell? ⟨w.heap.size + 1, 5, none⟩ = some (.string nm) := Blk.cell O1 5
 go_wp2_with (go_at_call 22; refine (awake19_any _).mono ?_; rintro e w9 ⟨rfl, b9⟩)
 go_ret
 exact ⟨rfl, below_next B1 b9⟩
set_option maxRecDepth 100000 in
set_option maxHeartbeats 20000000 in
theorem tgaBack_arg {w : World} {pk lf tp : Bool} {nm : ByteArray} {a : Option Addr} {m c : Nat} {b al W H : Int} (hm : m ≤ 1000) (hW : ¬ 60 < W) (hH : ¬ 60 < H) (hn : nm.size ≤ 300) (hno : ¬ TgaMay b al nm.size) :
  Calls Tryz.prog 5 #[.agg #[.int .i64 W, .int .i64 H, .slice a m c], .agg #[.bool pk, .int .i64 b, .int .i64 al, .bool lf, .bool tp, .string nm]] w fun e w' => e = .returned (.bool true) ∧ Below w.heap.size w w' := by
 have hmI : ¬ (1000 : Int) < (m : Int) := by omega
 have hnI : ¬ (300 : Int) < (nm.size : Int) := by omega
 have HW0 := fun w => tgaWrite_arg (pk := pk) (l := lf) (p := tp) (W := W) (H := H) (a := a) (n := m) (c := c) hn hno w
 unfold optV at HW0
 have HW := Lib.hid HW0
 have HNO := Lib.hid hno
 clear HW0 hno hm hn
 have I1 : IB ((w.alloc (.cells #[.int .i64 W, .int .i64 H, .slice a m c] 24)).alloc (.cells #[.bool pk, .int .i64 b, .int .i64 al, .bool lf, .bool tp, .string nm] 56)) w.heap.size W H a m c := Blk.alloc (IB.new w W H a m c) _
 have O1 : Blk ((w.alloc (.cells #[.int .i64 W, .int .i64 H, .slice a m c] 24)).alloc (.cells #[.bool pk, .int .i64 b, .int .i64 al, .bool lf, .bool tp, .string nm] 56)) (w.heap.size + 1) 56 #[.bool pk, .int .i64 b, .int .i64 al, .bool lf, .bool tp, .string nm] := Blk.new_at _ _ _ (by simp)
 have B1 : Below w.heap.size w ((w.alloc (.cells #[.int .i64 W, .int .i64 H, .slice a m c] 24)).alloc (.cells #[.bool pk, .int .i64 b, .int .i64 al, .bool lf, .bool tp, .string nm] 56)) := ((Below.refl w.heap.size w).alloc (Nat.le_refl _) _).alloc (by simp) _
 go_enter Tryz.func5, Tryz.ntmps5
 go_upto_region 1 with fail
 generalize (w.alloc (.cells #[.int .i64 W, .int .i64 H, .slice a m c] 24)).alloc (.cells #[.bool pk, .int .i64 b, .int .i64 al, .bool lf, .bool tp, .string nm] 56) = w1 at I1 O1 B1 ⊢
 obtain ⟨e0, e1, e2, v0, v1, v2, il⟩ := IB.all (I1)
 have o0 : w1.cell? ⟨w.heap.size + 1, 0, none⟩ = some (.bool pk) := Blk.cell O1 0
 have o1 : w1.cell? ⟨w.heap.size + 1, 1, none⟩ = some (.int .i64 b) := Blk.cell O1 1
 have o2 : w1.cell? ⟨w.heap.size + 1, 2, none⟩ = some (.int .i64 al) := Blk.cell O1 2
 have o3 : w1.cell? ⟨w.heap.size + 1, 3, none⟩ = some (.bool lf) := Blk.cell O1 3
 have o4 : w1.cell? ⟨w.heap.size + 1, 4, none⟩ = some (.bool tp) := Blk.cell O1 4
 have o5 : w1.cell? ⟨w.heap.size + 1, 5, none⟩ = some (.string nm) := Blk.cell O1 5
 go_upto_region 4 with (go_at_call 23; refine (HW.out _).mono ?_; rintro e w3 ⟨rfl, b3⟩)
 have O3 : Blk w3 (w.heap.size + 1) 56 #[.bool pk, .int .i64 b, .int .i64 al, .bool lf, .bool tp, .string nm] := Blk.below O1 b3 (Blk.lt O1)
 have B3 := below_next B1 b3
 clear e0 e1 e2 v0 v1 v2 il o0 o1 o2 o3 o4 o5 I1 O1 B1 b3
 have o1 : w3.cell? ⟨w.heap.size + 1, 1, none⟩ = some (.int .i64 b) := Blk.cell O3 1
 have o2 : w3.cell? ⟨w.heap.size + 1, 2, none⟩ = some (.int .i64 al) := Blk.cell O3 2
 have o5 : w3.cell? ⟨w.heap.size + 1, 5, none⟩ = some (.string nm) := Blk.cell O3 5
 by_cases hset : b = 8 ∨ b = 15 ∨ b = 16 ∨ b = 24 ∨ b = 32
 ·go_cut [7] from 39 to 61 (fun c wx => c = .bool true ∧ wx = w3)
  case first =>
   rcases hset with h | h | h | h | h
   all_goals
    subst h
    go_wp2_with fail
    go_meet
    case rel => exact ⟨rfl, rfl⟩
  obtain ⟨rfl, hwx⟩ := hcut
  have hwx := hwx.symm
  subst hwx
  go_upto_region 5 with fail
  go_cut [96] from 62 to 96 (fun c wx => c = .bool true ∧ wx = w3)
  case first =>
   by_cases hb32 : b = 32
   ·subst hb32
    by_cases ha0 : al = 0
    ·subst ha0
     have hnmI : (255 : Int) < (nm.size : Int) := by have := HNO.out; unfold TgaMay at this; omega
     go_wp2_with fail
     go_meet
     case rel => exact ⟨rfl, rfl⟩
    ·by_cases ha8 : al = 8
     ·subst ha8
      have hnmI : (255 : Int) < (nm.size : Int) := by have := HNO.out; unfold TgaMay at this; omega
      go_wp2_with fail
      go_meet
      case rel => exact ⟨rfl, rfl⟩
     ·by_cases ha1 : al = 1
      ·subst ha1
       go_wp2_with fail
       go_meet
       case rel => exact ⟨rfl, rfl⟩
      ·go_wp2_with fail
       go_meet
       case rel => exact ⟨rfl, rfl⟩
   ·by_cases hb16 : b = 16
    ·subst hb16
     by_cases ha0 : al = 0
     ·subst ha0
      have hnmI : (255 : Int) < (nm.size : Int) := by have := HNO.out; unfold TgaMay at this; omega
      go_wp2_with fail
      go_meet
      case rel => exact ⟨rfl, rfl⟩
     ·by_cases ha8 : al = 8
      ·subst ha8
       go_wp2_with fail
       go_meet
       case rel => exact ⟨rfl, rfl⟩
      ·by_cases ha1 : al = 1
       ·subst ha1
        have hnmI : (255 : Int) < (nm.size : Int) := by have := HNO.out; unfold TgaMay at this; omega
        go_wp2_with fail
        go_meet
        case rel => exact ⟨rfl, rfl⟩
       ·go_wp2_with fail
        go_meet
        case rel => exact ⟨rfl, rfl⟩
    ·by_cases ha0 : al = 0
     ·subst ha0
      have hnmI : (255 : Int) < (nm.size : Int) := by have := HNO.out; unfold TgaMay at this; omega
      go_wp2_with fail
      go_meet
      case rel => exact ⟨rfl, rfl⟩
     ·by_cases ha8 : al = 8
      ·subst ha8
       go_wp2_with fail
       go_meet
       case rel => exact ⟨rfl, rfl⟩
      ·by_cases ha1 : al = 1
       ·subst ha1
        go_wp2_with fail
        go_meet
        case rel => exact ⟨rfl, rfl⟩
       ·go_wp2_with fail
        go_meet
        case rel => exact ⟨rfl, rfl⟩
  obtain ⟨rfl, hwx⟩ := hcut
  have hwx := hwx.symm
  subst hwx
  go_wp2_with (go_at_call 22; refine (awake19_any _).mono ?_; rintro e w9 ⟨rfl, b9⟩)
  go_ret
  exact ⟨rfl, below_next B3 b9⟩
 ·go_cut [7] from 39 to 61 (fun c wx => c = .bool false ∧ wx = w3)
  case first =>
   have k8 : (b == 8) = false := beq_eq_false_iff_ne.2 (by omega)
   have k15 : (b == 15) = false := beq_eq_false_iff_ne.2 (by omega)
   have k16 : (b == 16) = false := beq_eq_false_iff_ne.2 (by omega)
   have k24 : (b == 24) = false := beq_eq_false_iff_ne.2 (by omega)
   have k32 : (b == 32) = false := beq_eq_false_iff_ne.2 (by omega)
   go_wp2_with fail
   go_meet
   case rel => exact ⟨rfl, rfl⟩
  obtain ⟨rfl, hwx⟩ := hcut
  have hwx := hwx.symm
  subst hwx
  go_upto_region 5 with fail
  go_wp2_with (go_at_call 22; refine (awake19_any _).mono ?_; rintro e w9 ⟨rfl, b9⟩)
  go_ret
  exact ⟨rfl, below_next B3 b9⟩
set_option maxRecDepth 100000 in
set_option maxHeartbeats 4000000 in
theorem tgaBack_size {w : World} {pk lf tp : Bool} {nm : ByteArray} {a : Option Addr} {m c : Nat} {b al W H : Int} (hm : m ≤ 1000) (hW : ¬ 60 < W) (hH : ¬ 60 < H) (hn : nm.size ≤ 300) (hmay : TgaMay b al nm.size) (hno : ¬ RightP W H m) :
  Calls Tryz.prog 5 #[.agg #[.int .i64 W, .int .i64 H, .slice a m c], .agg #[.bool pk, .int .i64 b, .int .i64 al, .bool lf, .bool tp, .string nm]] w fun e w' => e = .returned (.bool true) ∧ Below w.heap.size w w' := by
 have hmI : ¬ (1000 : Int) < (m : Int) := by omega
 have hnI : ¬ (300 : Int) < (nm.size : Int) := by omega
 have HW0 := fun w => tgaWrite_size (pk := pk) (l := lf) (p := tp) (a := a) (c := c) hn hmay hno w
 unfold optV at HW0
 have HW := Lib.hid HW0
 have HR := Lib.hid (fun w => refRight_bool (a := a) (c := c) (decide_eq_false hno) w)
 have HM := Lib.hid hmay
 clear HW0 hno hm hn hmay
 have I1 : IB ((w.alloc (.cells #[.int .i64 W, .int .i64 H, .slice a m c] 24)).alloc (.cells #[.bool pk, .int .i64 b, .int .i64 al, .bool lf, .bool tp, .string nm] 56)) w.heap.size W H a m c := Blk.alloc (IB.new w W H a m c) _
 have O1 : Blk ((w.alloc (.cells #[.int .i64 W, .int .i64 H, .slice a m c] 24)).alloc (.cells #[.bool pk, .int .i64 b, .int .i64 al, .bool lf, .bool tp, .string nm] 56)) (w.heap.size + 1) 56 #[.bool pk, .int .i64 b, .int .i64 al, .bool lf, .bool tp, .string nm] := Blk.new_at _ _ _ (by simp)
 have B1 : Below w.heap.size w ((w.alloc (.cells #[.int .i64 W, .int .i64 H, .slice a m c] 24)).alloc (.cells #[.bool pk, .int .i64 b, .int .i64 al, .bool lf, .bool tp, .string nm] 56)) := ((Below.refl w.heap.size w).alloc (Nat.le_refl _) _).alloc (by simp) _
 go_enter Tryz.func5, Tryz.ntmps5
 go_upto_region 1 with fail
 generalize (w.alloc (.cells #[.int .i64 W, .int .i64 H, .slice a m c] 24)).alloc (.cells #[.bool pk, .int .i64 b, .int .i64 al, .bool lf, .bool tp, .string nm] 56) = w1 at I1 O1 B1 ⊢
 obtain ⟨e0, e1, e2, v0, v1, v2, il⟩ := IB.all (I1)
 have o0 : w1.cell? ⟨w.heap.size + 1, 0, none⟩ = some (.bool pk) := Blk.cell O1 0
 have o1 : w1.cell? ⟨w.heap.size + 1, 1, none⟩ = some (.int .i64 b) := Blk.cell O1 1
 have o2 : w1.cell? ⟨w.heap.size + 1, 2, none⟩ = some (.int .i64 al) := Blk.cell O1 2
 have o3 : w1.cell? ⟨w.heap.size + 1, 3, none⟩ = some (.bool lf) := Blk.cell O1 3
 have o4 : w1.cell? ⟨w.heap.size + 1, 4, none⟩ = some (.bool tp) := Blk.cell O1 4
 have o5 : w1.cell? ⟨w.heap.size + 1, 5, none⟩ = some (.string nm) := Blk.cell O1 5
 go_upto_region 4 with (go_at_call 23; refine (HW.out _).mono ?_; rintro e w3 ⟨rfl, b3⟩)
 have O3 : Blk w3 (w.heap.size + 1) 56 #[.bool pk, .int .i64 b, .int .i64 al, .bool lf, .bool tp, .string nm] := Blk.below O1 b3 (Blk.lt O1)
 have I3 : IB w3 w.heap.size W H a m c := Blk.below I1 b3 (Blk.lt I1)
 have B3 := below_next B1 b3
 clear e0 e1 e2 v0 v1 v2 il o0 o1 o2 o3 o4 o5 I1 O1 B1 b3
 have o1 : w3.cell? ⟨w.heap.size + 1, 1, none⟩ = some (.int .i64 b) := Blk.cell O3 1
 have o2 : w3.cell? ⟨w.heap.size + 1, 2, none⟩ = some (.int .i64 al) := Blk.cell O3 2
 have o5 : w3.cell? ⟨w.heap.size + 1, 5, none⟩ = some (.string nm) := Blk.cell O3 5
 go_cut [7] from 39 to 61 (fun c wx => c = .bool true ∧ wx = w3)
 case first =>
  rcases HM.out.1 with h | h | h | h | h
  ·subst h
   go_wp2_with fail
   go_meet
   case rel => exact ⟨rfl, rfl⟩
  ·subst h
   go_wp2_with fail
   go_meet
   case rel => exact ⟨rfl, rfl⟩
  ·subst h
   go_wp2_with fail
   go_meet
   case rel => exact ⟨rfl, rfl⟩
  ·subst h
   go_wp2_with fail
   go_meet
   case rel => exact ⟨rfl, rfl⟩
  ·subst h
   go_wp2_with fail
   go_meet
   case rel => exact ⟨rfl, rfl⟩
 obtain ⟨rfl, hwx⟩ := hcut
 have hwx := hwx.symm
 subst hwx
 go_upto_region 5 with fail
 have hnmI : ¬ (255 : Int) < (nm.size : Int) := by have := HM.out.2.2; omega
 go_cut [96] from 62 to 96 (fun c wx => c = .bool false ∧ wx = w3)
 case first =>
  rcases HM.out.2.1 with h | ⟨h1, h2⟩ | ⟨h1, h2⟩
  ·subst h
   go_wp2_with fail
   go_meet
   case rel => exact ⟨rfl, rfl⟩
  ·subst h1
   subst h2
   go_wp2_with fail
   go_meet
   case rel => exact ⟨rfl, rfl⟩
  ·subst h1
   subst h2
   go_wp2_with fail
   go_meet
   case rel => exact ⟨rfl, rfl⟩
 obtain ⟨rfl, hwx⟩ := hcut
 have hwx := hwx.symm
 subst hwx
 obtain ⟨e0, e1, e2, v0, v1, v2, il⟩ := IB.all (I3)
 go_wp2_with (first
  | (go_at_call 8; refine (HR.out _).mono ?_; rintro e w4 ⟨rfl, b4⟩)
  | (go_at_call 22; refine (awake19_any _).mono ?_; rintro e w9 ⟨rfl, b9⟩))
 go_ret
 exact ⟨rfl, below_next (below_next B3 b4) b9⟩
theorem tgaBackRun {s : ByteArray} {W H : Nat} {l : List UInt8} (t : (tgaDec s).told = .img W H l) (u : tgaSides s = (W, H, 0)) (hsz : s.size ≤ 100000) (hW : W ≤ 60) (hH : H ≤ 60) (w : World) :
  Calls Tryz.prog 10 #[.string s, .agg #[.int .i64 16384, .int .i64 16384, .int .i64 262144, .int .i64 1048576], .func (.func 24) #[] #[]] w fun e w' => ∃ g d, e = .returned (.tuple #[.agg #[.int .i64 (W : Int), .int .i64 (H : Int), .slice (some ⟨d, 0, none⟩) l.length l.length], .agg #[.int .i64 0, .int .i64 0, .int .i64 0], .pointer (some ⟨g, 0, none⟩)]) ∧ BytesAt w' (some ⟨d, 0, none⟩) l.length l ∧ Below w.heap.size w w' := by
 refine (tgaRunW (s := s) (by omega) (by rw [u]; exact hW) (by rw [u]; exact hH) (by rw [u]; exact Nat.zero_le _) w).mono ?_
 rintro e w' ⟨g, y, l3, hy, b3, hor⟩
 rw [t] at hor
 rcases hor with ⟨k, a, hk, hr, rfl⟩ | ⟨W', H', l', d, hr, rfl, hb⟩
 ·cases hr
 ·injection hr with h1 h2 h3
  subst h1 h2 h3
  exact ⟨g, d, rfl, hb, b3⟩
set_option maxRecDepth 100000 in
set_option maxHeartbeats 40000000 in
theorem tgaBack_yes {w : World} {pk lf tp : Bool} {nm : ByteArray} {m c : Nat} {n al W H : Nat} {ab ao : Nat} {l : List UInt8} (hm : m ≤ 1000) (hW : W ≤ 60) (hH : H ≤ 60) (hn : nm.size ≤ 300) (hmay : TgaMay (n : Int) (al : Int) nm.size) (hR : RightP (W : Int) (H : Int) m) (hmc : m ≤ c) (hA : BytesAt w (some ⟨ab, ao, none⟩) m l) :
  Calls Tryz.prog 5 #[.agg #[.int .i64 (W : Int), .int .i64 (H : Int), .slice (some ⟨ab, ao, none⟩) m c], .agg #[.bool pk, .int .i64 (n : Int), .int .i64 (al : Int), .bool lf, .bool tp, .string nm]] w fun e w' => e = .returned (.bool true) ∧ Below w.heap.size w w' := by
 have hmI : ¬ (1000 : Int) < (m : Int) := by omega
 have hnI : ¬ (300 : Int) < (nm.size : Int) := by omega
 have hWI : ¬ (60 : Int) < (W : Int) := by omega
 have hHI : ¬ (60 : Int) < (H : Int) := by omega
 obtain ⟨N, hN⟩ : ∃ N, W * H = N := ⟨_, rfl⟩
 have hw1 : 1 ≤ W := by have := hR.1.1; omega
 have hh1 : 1 ≤ H := by have := hR.2.1.1; omega
 have hm4 : 4 * N = m := by have := hR.2.2; rw [Int.mul_assoc, show (W : Int) * (H : Int) = ((W * H : Nat) : Int) by simp, hN] at this; omega
 have HW0 := fun (w' : World) (k : Below w.heap.size w w') => tgaWrite_in (pk := pk) (lf := lf) (tp := tp) (c := c) hn hmay rfl hW hH hR hmc w' (hA.below k)
 unfold optV at HW0
 have HW := Lib.hid HW0
 have HR := Lib.hid (fun w => refRight_bool (a := some ⟨ab, ao, none⟩) (c := c) (decide_eq_true hR) w)
 have HM := Lib.hid hmay
 have HBT := Lib.hid hA
 have HL : Hid (m = l.length) := Lib.hid hA.1
 have HNE := Lib.hid hN
 have HN1 : Hid (1 ≤ N) := Lib.hid (by rw [← hN]; exact Nat.mul_le_mul hw1 hh1)
 have HNB : Hid (N ≤ 268435456) := Lib.hid (by omega)
 have HZ := Lib.hid hm4
 have HWH := Lib.hid (And.intro hW hH)
 clear HW0 hm hn hmay hR hA hN hw1 hh1 hm4 hW hH hmc
 have I1 : IB ((w.alloc (.cells #[.int .i64 (W : Int), .int .i64 (H : Int), .slice (some ⟨ab, ao, none⟩) m c] 24)).alloc (.cells #[.bool pk, .int .i64 (n : Int), .int .i64 (al : Int), .bool lf, .bool tp, .string nm] 56)) w.heap.size (W : Int) (H : Int) (some ⟨ab, ao, none⟩) m c := Blk.alloc (IB.new w (W : Int) (H : Int) (some ⟨ab, ao, none⟩) m c) _
 have O1 : Blk ((w.alloc (.cells #[.int .i64 (W : Int), .int .i64 (H : Int), .slice (some ⟨ab, ao, none⟩) m c] 24)).alloc (.cells #[.bool pk, .int .i64 (n : Int), .int .i64 (al : Int), .bool lf, .bool tp, .string nm] 56)) (w.heap.size + 1) 56 #[.bool pk, .int .i64 (n : Int), .int .i64 (al : Int), .bool lf, .bool tp, .string nm] := Blk.new_at _ _ _ (by simp)
 have B1 : Below w.heap.size w ((w.alloc (.cells #[.int .i64 (W : Int), .int .i64 (H : Int), .slice (some ⟨ab, ao, none⟩) m c] 24)).alloc (.cells #[.bool pk, .int .i64 (n : Int), .int .i64 (al : Int), .bool lf, .bool tp, .string nm] 56)) := ((Below.refl w.heap.size w).alloc (Nat.le_refl _) _).alloc (by simp) _
 go_enter Tryz.func5, Tryz.ntmps5
 go_upto_region 1 with fail
 generalize (w.alloc (.cells #[.int .i64 (W : Int), .int .i64 (H : Int), .slice (some ⟨ab, ao, none⟩) m c] 24)).alloc (.cells #[.bool pk, .int .i64 (n : Int), .int .i64 (al : Int), .bool lf, .bool tp, .string nm] 56) = w1 at I1 O1 B1 ⊢
 obtain ⟨e0, e1, e2, v0, v1, v2, il⟩ := IB.all (I1)
 have o0 : w1.cell? ⟨w.heap.size + 1, 0, none⟩ = some (.bool pk) := Blk.cell O1 0
 have o1 : w1.cell? ⟨w.heap.size + 1, 1, none⟩ = some (.int .i64 (n : Int)) := Blk.cell O1 1
 have o2 : w1.cell? ⟨w.heap.size + 1, 2, none⟩ = some (.int .i64 (al : Int)) := Blk.cell O1 2
 have o3 : w1.cell? ⟨w.heap.size + 1, 3, none⟩ = some (.bool lf) := Blk.cell O1 3
 have o4 : w1.cell? ⟨w.heap.size + 1, 4, none⟩ = some (.bool tp) := Blk.cell O1 4
 have o5 : w1.cell? ⟨w.heap.size + 1, 5, none⟩ = some (.string nm) := Blk.cell O1 5
 go_upto_region 4 with (go_at_call 23; refine (HW.out _ B1).mono ?_; rintro e w3 ⟨b3, hor⟩; rcases hor with ⟨rfl, hno⟩ | ⟨s, rfl, ht, hu, hsz⟩)
 ·have O3 : Blk w3 (w.heap.size + 1) 56 #[.bool pk, .int .i64 (n : Int), .int .i64 (al : Int), .bool lf, .bool tp, .string nm] := Blk.below O1 b3 (Blk.lt O1)
  have I3 : IB w3 w.heap.size (W : Int) (H : Int) (some ⟨ab, ao, none⟩) m c := Blk.below I1 b3 (Blk.lt I1)
  have B3 := below_next B1 b3
  clear e0 e1 e2 v0 v1 v2 il o0 o1 o2 o3 o4 o5 I1 O1 B1 b3
  have o1 : w3.cell? ⟨w.heap.size + 1, 1, none⟩ = some (.int .i64 (n : Int)) := Blk.cell O3 1
  have o2 : w3.cell? ⟨w.heap.size + 1, 2, none⟩ = some (.int .i64 (al : Int)) := Blk.cell O3 2
  have o5 : w3.cell? ⟨w.heap.size + 1, 5, none⟩ = some (.string nm) := Blk.cell O3 5
  go_cut [7] from 39 to 61 (fun c wx => c = .bool true ∧ wx = w3)
  case first =>
   rcases HM.out.1 with h | h | h | h | h
   ·obtain rfl : n = 8 := by omega
    go_wp2_with fail
    go_meet
    case rel => exact ⟨rfl, rfl⟩
   ·obtain rfl : n = 15 := by omega
    go_wp2_with fail
    go_meet
    case rel => exact ⟨rfl, rfl⟩
   ·obtain rfl : n = 16 := by omega
    go_wp2_with fail
    go_meet
    case rel => exact ⟨rfl, rfl⟩
   ·obtain rfl : n = 24 := by omega
    go_wp2_with fail
    go_meet
    case rel => exact ⟨rfl, rfl⟩
   ·obtain rfl : n = 32 := by omega
    go_wp2_with fail
    go_meet
    case rel => exact ⟨rfl, rfl⟩
  obtain ⟨rfl, hwx⟩ := hcut
  have hwx := hwx.symm
  subst hwx
  go_upto_region 5 with fail
  have hnmI : ¬ (255 : Int) < (nm.size : Int) := by have := HM.out.2.2; omega
  go_cut [96] from 62 to 96 (fun c wx => c = .bool false ∧ wx = w3)
  case first =>
   rcases HM.out.2.1 with h | ⟨h1, h2⟩ | ⟨h1, h2⟩
   ·obtain rfl : al = 0 := by omega
    go_wp2_with fail
    go_meet
    case rel => exact ⟨rfl, rfl⟩
   ·exact absurd (And.intro (show n = 32 by omega) (show al = 8 by omega)) hno
   ·obtain rfl : n = 16 := by omega
    obtain rfl : al = 1 := by omega
    go_wp2_with fail
    go_meet
    case rel => exact ⟨rfl, rfl⟩
  obtain ⟨rfl, hwx⟩ := hcut
  have hwx := hwx.symm
  subst hwx
  obtain ⟨e0, e1, e2, v0, v1, v2, il⟩ := IB.all (I3)
  by_cases h32 : (n : Int) = 32
  ·have h8 : ((al : Int) == 8) = false := beq_eq_false_iff_ne.2 (by omega)
   go_wp2_with (first
    | (go_at_call 8; refine (HR.out _).mono ?_; rintro e w4 ⟨rfl, b4⟩; have o1' : w4.cell? ⟨w.heap.size + 1, 1, none⟩ = some (.int .i64 (n : Int)) := Blk.cell (Blk.below O3 b4 (Blk.lt O3)) 1; have o2' : w4.cell? ⟨w.heap.size + 1, 2, none⟩ = some (.int .i64 (al : Int)) := Blk.cell (Blk.below O3 b4 (Blk.lt O3)) 2)
    | (go_at_call 22; refine (awake19_any _).mono ?_; rintro e w9 ⟨rfl, b9⟩))
   go_ret
   exact ⟨rfl, below_next (below_next B3 b4) b9⟩
  ·go_wp2_with (first
    | (go_at_call 8; refine (HR.out _).mono ?_; rintro e w4 ⟨rfl, b4⟩; have o1' : w4.cell? ⟨w.heap.size + 1, 1, none⟩ = some (.int .i64 (n : Int)) := Blk.cell (Blk.below O3 b4 (Blk.lt O3)) 1; have o2' : w4.cell? ⟨w.heap.size + 1, 2, none⟩ = some (.int .i64 (al : Int)) := Blk.cell (Blk.below O3 b4 (Blk.lt O3)) 2)
    | (go_at_call 22; refine (awake19_any _).mono ?_; rintro e w9 ⟨rfl, b9⟩))
   go_ret
   exact ⟨rfl, below_next (below_next B3 b4) b9⟩
 ·have O3 : Blk w3 (w.heap.size + 1) 56 #[.bool pk, .int .i64 (n : Int), .int .i64 (al : Int), .bool lf, .bool tp, .string nm] := Blk.below O1 b3 (Blk.lt O1)
  have I3 : IB w3 w.heap.size (W : Int) (H : Int) (some ⟨ab, ao, none⟩) m c := Blk.below I1 b3 (Blk.lt I1)
  have B3 := below_next B1 b3
  clear e0 e1 e2 v0 v1 v2 il o0 o1 o2 o3 o4 o5 I1 O1 B1 b3
  have o1 : w3.cell? ⟨w.heap.size + 1, 1, none⟩ = some (.int .i64 (n : Int)) := Blk.cell O3 1
  have o2 : w3.cell? ⟨w.heap.size + 1, 2, none⟩ = some (.int .i64 (al : Int)) := Blk.cell O3 2
  have o5 : w3.cell? ⟨w.heap.size + 1, 5, none⟩ = some (.string nm) := Blk.cell O3 5
  have HN := Lib.hid (fun w => tgaBackRun ht hu hsz HWH.out.1 HWH.out.2 w)
  have HD0 := fun w => refTgaDecode (s := s) hsz w
  rw [ht] at HD0
  have HD := Lib.hid HD0
  clear HD0 ht hu hsz HW
  go_cut [7] from 39 to 61 (fun c wx => c = .bool true ∧ wx = w3)
  case first =>
   rcases HM.out.1 with h | h | h | h | h
   ·obtain rfl : n = 8 := by omega
    go_wp2_with fail
    go_meet
    case rel => exact ⟨rfl, rfl⟩
   ·obtain rfl : n = 15 := by omega
    go_wp2_with fail
    go_meet
    case rel => exact ⟨rfl, rfl⟩
   ·obtain rfl : n = 16 := by omega
    go_wp2_with fail
    go_meet
    case rel => exact ⟨rfl, rfl⟩
   ·obtain rfl : n = 24 := by omega
    go_wp2_with fail
    go_meet
    case rel => exact ⟨rfl, rfl⟩
   ·obtain rfl : n = 32 := by omega
    go_wp2_with fail
    go_meet
    case rel => exact ⟨rfl, rfl⟩
  obtain ⟨rfl, hwx⟩ := hcut
  have hwx := hwx.symm
  subst hwx
  go_upto_region 5 with fail
  have hnmI : ¬ (255 : Int) < (nm.size : Int) := by have := HM.out.2.2; omega
  go_cut [96] from 62 to 96 (fun c wx => c = .bool false ∧ wx = w3)
  case first =>
   rcases HM.out.2.1 with h | ⟨h1, h2⟩ | ⟨h1, h2⟩
   ·obtain rfl : al = 0 := by omega
    go_wp2_with fail
    go_meet
    case rel => exact ⟨rfl, rfl⟩
   ·obtain rfl : n = 32 := by omega
    obtain rfl : al = 8 := by omega
    go_wp2_with fail
    go_meet
    case rel => exact ⟨rfl, rfl⟩
   ·obtain rfl : n = 16 := by omega
    obtain rfl : al = 1 := by omega
    go_wp2_with fail
    go_meet
    case rel => exact ⟨rfl, rfl⟩
  obtain ⟨rfl, hwx⟩ := hcut
  have hwx := hwx.symm
  subst hwx
  obtain ⟨e0, e1, e2, v0, v1, v2, il⟩ := IB.all (I3)
  clear o1 o2 o5
  go_wp2_with (first
   | (go_at_call 8; refine (HR.out _).mono ?_; rintro e w2 ⟨rfl, b2⟩; have I2 : IB w2 w.heap.size (W : Int) (H : Int) (some ⟨ab, ao, none⟩) m c := Blk.below I3 b2 (Blk.lt I3); have B2 := below_next B3 b2)
   | (go_at_call 11; refine (wide15 _).mono ?_; rintro e w5x ⟨rfl, b5x⟩; have I5 : IB w5x w.heap.size (W : Int) (H : Int) (some ⟨ab, ao, none⟩) m c := Blk.below I2 b5x (Blk.lt I2); have B5x := below_next B2 b5x)
   | (go_at_call 10; refine (HN.out _).mono ?_; rintro e w4 ⟨g, d, rfl, t4, b4⟩; have I4 : IB w4 w.heap.size (W : Int) (H : Int) (some ⟨ab, ao, none⟩) m c := Blk.below I5 b4 (Blk.lt I5); have B4 := below_next B5x b4; rw [← HL.out] at t4 ⊢; have B5 := B4.alloc B4.size (.cells #[.int .i64 (W : Int), .int .i64 (H : Int), .slice (some ⟨d, 0, none⟩) m m] 24); have HB6 := B5.alloc B5.size (.cells #[.int .i64 0, .int .i64 0, .int .i64 0] 34); clear e0 e1 e2 v0 v1 v2 il))
  have J6 : IB ((w4.alloc (.cells #[.int .i64 (W : Int), .int .i64 (H : Int), .slice (some ⟨d, 0, none⟩) m m] 24)).alloc (.cells #[.int .i64 0, .int .i64 0, .int .i64 0] 34)) w4.heap.size (W : Int) (H : Int) (some ⟨d, 0, none⟩) m m := Blk.alloc (Blk.new _ _ _) _
  have K6 : FB ((w4.alloc (.cells #[.int .i64 (W : Int), .int .i64 (H : Int), .slice (some ⟨d, 0, none⟩) m m] 24)).alloc (.cells #[.int .i64 0, .int .i64 0, .int .i64 0] 34)) (w4.heap.size + 1) 0 0 0 := Blk.new_at _ _ _ (by simp)
  have I6 : IB ((w4.alloc (.cells #[.int .i64 (W : Int), .int .i64 (H : Int), .slice (some ⟨d, 0, none⟩) m m] 24)).alloc (.cells #[.int .i64 0, .int .i64 0, .int .i64 0] 34)) w.heap.size (W : Int) (H : Int) (some ⟨ab, ao, none⟩) m c := Blk.alloc (Blk.alloc I4 _) _
  have T6 := (t4.alloc (.cells #[.int .i64 (W : Int), .int .i64 (H : Int), .slice (some ⟨d, 0, none⟩) m m] 24)).alloc (.cells #[.int .i64 0, .int .i64 0, .int .i64 0] 34)
  generalize (w4.alloc (.cells #[.int .i64 (W : Int), .int .i64 (H : Int), .slice (some ⟨d, 0, none⟩) m m] 24)).alloc (.cells #[.int .i64 0, .int .i64 0, .int .i64 0] 34) = w6 at J6 K6 I6 T6 HB6 ⊢
  generalize w4.heap.size + 1 = qf at K6 ⊢
  generalize w4.heap.size = qm at J6 ⊢
  have M6 := HBT.out.below HB6
  clear b2 b5x b4 B2 B5x B4 B5 I2 I3 B3 O3 I5 I4 t4
  refine (HD.out _).mono ?_
  rintro e w5 ⟨b5, v, LL, rfl, own, hfl, hlen⟩
  obtain ⟨gq, cap, rfl, hcap, hq⟩ : ∃ gq cap, v = .slice (some ⟨gq, 0, none⟩) N cap ∧ N ≤ cap ∧ QAt w5 gq 0 LL := by
   have hlN : LL.length = N := hlen.trans HNE.out
   rcases own.form with ⟨_, h⟩ | ⟨gq, cap, h, _, _, h2, h3⟩
   ·have := HN1.out
    rw [h] at hlen
    have := HNE.out
    simp at hlen
    omega
   ·exact ⟨gq, cap, by rw [h, hlN], by omega, h3⟩
  have b6 : Below w5.heap.size w5 (w5.alloc (.cells #[.int .i64 (W : Int), .int .i64 (H : Int), .slice (some ⟨gq, 0, none⟩) N cap, .int .i64 0, .int .i64 0] 44)) := (Below.refl _ _).alloc (Nat.le_refl _) _
  have R7 : RI (w5.alloc (.cells #[.int .i64 (W : Int), .int .i64 (H : Int), .slice (some ⟨gq, 0, none⟩) N cap, .int .i64 0, .int .i64 0] 44)) w5.heap.size (W : Int) (H : Int) (.slice (some ⟨gq, 0, none⟩) N cap) 0 0 := Blk.new _ _ _
  have K7 : FB (w5.alloc (.cells #[.int .i64 (W : Int), .int .i64 (H : Int), .slice (some ⟨gq, 0, none⟩) N cap, .int .i64 0, .int .i64 0] 44)) qf 0 0 0 := Blk.alloc (FB.below K6 b5) _
  have J7 : IB (w5.alloc (.cells #[.int .i64 (W : Int), .int .i64 (H : Int), .slice (some ⟨gq, 0, none⟩) N cap, .int .i64 0, .int .i64 0] 44)) qm (W : Int) (H : Int) (some ⟨d, 0, none⟩) m m := Blk.alloc (Blk.below J6 b5 (Blk.lt J6)) _
  have I7 : IB (w5.alloc (.cells #[.int .i64 (W : Int), .int .i64 (H : Int), .slice (some ⟨gq, 0, none⟩) N cap, .int .i64 0, .int .i64 0] 44)) w.heap.size (W : Int) (H : Int) (some ⟨ab, ao, none⟩) m c := Blk.alloc (Blk.below I6 b5 (Blk.lt I6)) _
  have T7 : BytesAt (w5.alloc (.cells #[.int .i64 (W : Int), .int .i64 (H : Int), .slice (some ⟨gq, 0, none⟩) N cap, .int .i64 0, .int .i64 0] 44)) (some ⟨d, 0, none⟩) m l := (T6.below b5).alloc _
  have M7 : BytesAt (w5.alloc (.cells #[.int .i64 (W : Int), .int .i64 (H : Int), .slice (some ⟨gq, 0, none⟩) N cap, .int .i64 0, .int .i64 0] 44)) (some ⟨ab, ao, none⟩) m l := (M6.below b5).alloc _
  have Q7 : QAt (w5.alloc (.cells #[.int .i64 (W : Int), .int .i64 (H : Int), .slice (some ⟨gq, 0, none⟩) N cap, .int .i64 0, .int .i64 0] 44)) gq 0 LL := hq.below b6
  have B7 := below_next (below_next HB6 b5) b6
  have HLN : Hid (N = LL.length) := Lib.hid (hlen.trans HNE.out).symm
  have HFL := Lib.hid hfl
  clear own hlen hfl hq
  go_upto_region 13 with fail
  generalize w5.alloc (.cells #[.int .i64 (W : Int), .int .i64 (H : Int), .slice (some ⟨gq, 0, none⟩) N cap, .int .i64 0, .int .i64 0] 44) = w7 at R7 K7 J7 I7 T7 M7 Q7 B7 ⊢
  generalize w5.heap.size = qr at R7 ⊢
  clear b5 b6 J6 K6 I6 T6 M6 HB6
  obtain ⟨c0, c1, c2, z0, z1, z2, fl⟩ := FB.all K7
  obtain ⟨d0, d1, d2, d3, d4, y0, y1, y2, y3, y4, dl⟩ := RI.all R7
  obtain ⟨e0, e1, e2, v0, v1, v2, il⟩ := IB.all I7
  obtain ⟨f0, f1, f2, u0, u1, u2, jl⟩ := IB.all J7
  clear z0 z1 z2 y0 y1 y2 y3 y4 v0 v1 v2 u0 u1 u2
  go_region_with (first
   | (go_at_call_of 14 (Value.agg #[.int .i64 (W : Int), .int .i64 (H : Int), .slice (some ⟨d, 0, none⟩) m m]); refine (refSame_bool (w := w7.drew) (same_self _ _ _) T7 M7).mono ?_; rintro e w8 ⟨rfl, b8⟩; have R8 : RI w8 qr (W : Int) (H : Int) (.slice (some ⟨gq, 0, none⟩) N cap) 0 0 := Blk.below (Blk.drew R7) b8 (Blk.lt R7); have I8 : IB w8 w.heap.size (W : Int) (H : Int) (some ⟨ab, ao, none⟩) m c := Blk.below (Blk.drew I7) b8 (Blk.lt I7); have M8 := BytesAt.below (w := w7.drew) M7 b8; have Q8 := QAt.below (w := w7.drew) Q7 b8; have B8 := below_next B7.drew b8; clear c0 c1 c2 fl d0 d1 d2 d3 d4 dl e0 e1 e2 il f0 f1 f2 jl; obtain ⟨d0, d1, d2, d3, d4, y0, y1, y2, y3, y4, dl⟩ := RI.all R8; obtain ⟨e0, e1, e2, v0, v1, v2, il⟩ := IB.all I8)
   | (go_at_call 15; refine (refPlain HLN.out hcap HNB.out Q8).mono ?_; rintro e w9 ⟨d9, c9, rfl, t9, b9⟩; rw [HFL.out, HZ.out] at t9; have I9 : IB w9 w.heap.size (W : Int) (H : Int) (some ⟨ab, ao, none⟩) m c := Blk.below I8 b9 (Blk.lt I8); have M9 := M8.below b9; have B9 := below_next B8 b9; rw [HZ.out]; clear d0 d1 d2 d3 d4 dl e0 e1 e2 il; obtain ⟨e0, e1, e2, v0', v1', v2', il⟩ := IB.all I9)
   | (go_at_call 14; refine (refSame_bool (same_self _ _ _) t9 M9).mono ?_; rintro e w10 ⟨rfl, b10⟩; have B10 := below_next B9 b10)
   | (go_at_call 22; refine (awake19_any _).mono ?_; rintro e w11 ⟨rfl, b11⟩))
  all_goals go_wp2_with fail
  all_goals go_ret
  all_goals exact ⟨rfl, below_next B10 b11⟩
/-- the law; the frame opens the arguments by img_of and tgaOpt_of -/
theorem tgaBack_said (w : World) (W H : Int) (a : Option Addr) (m c : Nat) (l : List UInt8) (h : fits5 W ∧ fits5 H ∧ BytesAt w a m l ∧ m ≤ c ∧ c ≤ maxLen) (pk : Bool) (b al : Int) (lf tp : Bool) (nm : ByteArray) (h' : fits5 b ∧ fits5 al ∧ nm.size ≤ maxLen) :
  Calls Tryz.prog 5 #[.agg #[.int .i64 W, .int .i64 H, .slice a m c], .agg #[.bool pk, .int .i64 b, .int .i64 al, .bool lf, .bool tp, .string nm]] w fun e w' => e = .returned (.bool true) ∧ Below w.heap.size w w' := by
 by_cases hl : 1000 < m ∨ 60 < W ∨ 60 < H ∨ 300 < nm.size
 ·exact tgaBack_large hl
 by_cases hmay : TgaMay b al nm.size
 ·by_cases hR : RightP W H m
  ·obtain ⟨W', rfl⟩ : ∃ k : Nat, W = k := ⟨W.toNat, by have := hR.1.1; omega⟩
   obtain ⟨H', rfl⟩ : ∃ k : Nat, H = k := ⟨H.toNat, by have := hR.2.1.1; omega⟩
   obtain ⟨b', rfl⟩ : ∃ k : Nat, b = k := ⟨b.toNat, by have := hmay.1; omega⟩
   obtain ⟨al', rfl⟩ : ∃ k : Nat, al = k := ⟨al.toNat, by have := hmay.2.1; omega⟩
   obtain ⟨ab, ao, rfl⟩ : ∃ ab ao, a = some ⟨ab, ao, none⟩ := by
    rcases h.2.2.1.2 with h0 | ⟨ab, ao, h0, _⟩
    ·have h1 := hR.2.2; have h2 := hR.1.1; have h3 := hR.2.1.1; have h4 := Int.mul_pos (show (0 : Int) < 4 * (W' : Int) by omega) (show (0 : Int) < (H' : Int) by omega); omega
    ·exact ⟨ab, ao, h0⟩
   exact tgaBack_yes (by omega) (by omega) (by omega) (by omega) hmay hR h.2.2.2.1 h.2.2.1
  ·exact tgaBack_size (by omega) (by omega) (by omega) (by omega) hmay hR
 ·exact tgaBack_arg (by omega) (by omega) (by omega) (by omega) hmay
end Go.Proofs.YtlehkgkomjojmaaGreat
