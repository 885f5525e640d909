/- One call of both: Put, Set, Free. -/
import Derived.Test.YtegoakfhadmblaaBufOne
namespace Go.Proofs.Ytegoakfhadmblaa
open Go.RowKit
set_option linter.unusedVariables false
set_option linter.unusedSimpArgs false

set_option maxRecDepth 100000 in
set_option maxHeartbeats 1000000 in
theorem one_set_yes {w : World} {b g d : Nat} {s x : ByteArray} {y : Led} {k : Int} {i : Nat} {n : Int} {c8 : UInt8} (hs : s.size ≤ 1000) (hx : x.size ≤ 1000) (hb : b < w.heap.size) (hg : g < w.heap.size) (hd : d < w.heap.size) (hM : BufAt w b g d s.data.toList) (hL : LedAt w g y) (hi : i + 1 ≤ s.size) :
    Calls Try.prog 38 #[.pointer (some ⟨b, 0, none⟩), .agg #[.string s, .bool true, .int .i64 k], .agg #[.int .i64 2, .int .i64 (i : Int), .int .i64 n, .int .u8 (c8.toNat : Int), .string x]] w fun e w' => e = .returned (.tuple #[.agg #[.string (putS s (strOf [c8]) i), .bool true, .int .i64 k], .bool true]) ∧ OneEnd w w' b g d ((putS s (strOf [c8]) i)) (true) (y) := by
  have Q3 : OneW ((((w.alloc (.cells #[.string s, .bool true, .int .i64 k] 67)).alloc (.cells #[.int .i64 2, .int .i64 (i : Int), .int .i64 n, .int .u8 (c8.toNat : Int), .string x] 69)).alloc (.cells #[.string ⟨#[]⟩, .bool false, .int .i64 0] 67))) w.heap.size b g d (s) (true) (k) (2) ((i : Int)) (n) ((c8.toNat : Int)) (x) (s) (true) (y)  := ⟨((Blk.new _ _ _).alloc _).alloc _, (Blk.new_at _ _ _ (by simp)).alloc _, Blk.new_at _ _ _ (by simp), fun _ => ⟨((hM.blk.alloc _).alloc _).alloc _, ((hM.row.alloc _).alloc _).alloc _⟩, fun h => absurd h (by decide), ((Blk.alloc hL _).alloc _).alloc _⟩
  have HQ3 := Lib.hid Q3
  have HT3 : Hid (Turn [b, g, d] w (((w.alloc (.cells #[.string s, .bool true, .int .i64 k] 67)).alloc (.cells #[.int .i64 2, .int .i64 (i : Int), .int .i64 n, .int .u8 (c8.toNat : Int), .string x] 69)).alloc (.cells #[.string ⟨#[]⟩, .bool false, .int .i64 0] 67))) := Lib.hid ((((Turn.refl _ _).alloc _).alloc _).alloc _)
  have h0 : (0 : Int) ≤ (i : Int) := by omega
  have hdg := hM.dg hL
  have hbd := hM.bd
  have HP : Hid (∀ w : World, Calls Try.prog 80 #[.agg #[.string s, .bool true, .int .i64 k], .int .i64 (i : Int), .string (strOf [c8])] w fun e w' => e = .returned (.tuple #[.agg #[.string (putS s (strOf [c8]) i), .bool true, .int .i64 k], .bool true]) ∧ Below w.heap.size w w') := Lib.hid (fun w => rput_yes (s := s) (x := (strOf [c8])) (i := i) (by omega) (by rw [strOf_size]; simp) (by rw [strOf_size]; simpa using hi))
  have HI := Lib.hid hi
  clear hi
  have HCB : Hid (((((w.alloc (.cells #[.string s, .bool true, .int .i64 k] 67)).alloc (.cells #[.int .i64 2, .int .i64 (i : Int), .int .i64 n, .int .u8 (c8.toNat : Int), .string x] 69)).alloc (.cells #[.string ⟨#[]⟩, .bool false, .int .i64 0] 67)).alloc (.cells #[.int .u8 (c8.toNat : Int)] 5)).cell? ⟨w.heap.size + 1 + 1 + 1, 0, none⟩ = some (.int .u8 (c8.toNat : Int))) := Lib.hid (Blk.cell (Blk.new_at _ _ _ (by simp)) 0)
  have HM := Lib.hid hM
  have HL := Lib.hid hL
  clear Q3 hM hL
  go_enter Try.func38, Try.ntmps38
  go_wp2_with (first
    | (go_at_call 80; refine (HP.out _).mono ?_; rintro e w1 ⟨rfl, b1⟩; have Q1 : OneW (w1) w.heap.size b g d (s) (true) (k) (2) ((i : Int)) (n) ((c8.toNat : Int)) (x) (s) (true) (y)  := (HQ3.out.alloc _).below b1; have T1 := (HT3.out.alloc _).trans (Turn.of_below b1); have x0 : (w1).cell? ⟨w.heap.size, 0, none⟩ = some (.string s) := SB.c0 Q1.X; have x1 : (w1).cell? ⟨w.heap.size, 1, none⟩ = some (.bool true) := SB.c1 Q1.X; have x2 : (w1).cell? ⟨w.heap.size, 2, none⟩ = some (.int .i64 k) := SB.c2 Q1.X; have o0 : (w1).cell? ⟨w.heap.size + 1, 0, none⟩ = some (.int .i64 2) := OB.c0 Q1.O; have o1 : (w1).cell? ⟨w.heap.size + 1, 1, none⟩ = some (.int .i64 (i : Int)) := OB.c1 Q1.O; have o2 : (w1).cell? ⟨w.heap.size + 1, 2, none⟩ = some (.int .i64 n) := OB.c2 Q1.O; have o3 : (w1).cell? ⟨w.heap.size + 1, 3, none⟩ = some (.int .u8 (c8.toNat : Int)) := OB.c3 Q1.O; have o4 : (w1).cell? ⟨w.heap.size + 1, 4, none⟩ = some (.string x) := OB.c4 Q1.O; have r0 : (w1).cell? ⟨w.heap.size + 2, 0, none⟩ = some (.string ⟨#[]⟩) := SB.c0 Q1.R; have r1 : (w1).cell? ⟨w.heap.size + 2, 1, none⟩ = some (.bool false) := SB.c1 Q1.R; have r2 : (w1).cell? ⟨w.heap.size + 2, 2, none⟩ = some (.int .i64 0) := SB.c2 Q1.R; have z0 := Blk.frozen Q1.R 0; have z1 := Blk.frozen Q1.R 1; have z2 := Blk.frozen Q1.R 2; have lx := Blk.lt Q1.X; have lo := Blk.lt Q1.O; have lr := Blk.lt Q1.R; have nx := Nat.ne_of_lt lx; have no := Nat.ne_of_lt lo; have nr := Nat.ne_of_lt lr)
    | (refine wpList_convert_byte rfl (.tmp 65) 9 Try.underlying9 rfl _ 1 rfl c8 HCB.out ?_))
  have Qq : OneW ((w1.alloc (.cells #[.string (putS s (strOf [c8]) i), .bool true, .int .i64 k] 67))) w.heap.size b g d (s) (true) (k) (2) ((i : Int)) (n) ((c8.toNat : Int)) (x) (s) (true) (y)  := Q1.alloc _
  have Tq : Turn [b, g, d] w (w1.alloc (.cells #[.string (putS s (strOf [c8]) i), .bool true, .int .i64 k] 67)) := T1.alloc _
  have Yq : SB (w1.alloc (.cells #[.string (putS s (strOf [c8]) i), .bool true, .int .i64 k] 67)) w1.heap.size ((putS s (strOf [c8]) i)) true k := Blk.new _ _ _
  have hyq : w1.heap.size < (w1.alloc (.cells #[.string (putS s (strOf [c8]) i), .bool true, .int .i64 k] 67)).heap.size := by simp
  have hmy := lr
  clear x0 x1 x2 o0 o1 o2 o3 o4 r0 r1 r2 z0 z1 z2 lx lo lr nx no nr
  change Code.wp _ _ _ _ (w1.alloc (.cells #[.string (putS s (strOf [c8]) i), .bool true, .int .i64 k] 67))
  generalize hwq : (w1.alloc (.cells #[.string (putS s (strOf [c8]) i), .bool true, .int .i64 k] 67)) = wq at Qq Tq Yq hyq ⊢
  clear hwq
  have x0 : (wq).cell? ⟨w.heap.size, 0, none⟩ = some (.string s) := SB.c0 Qq.X
  have x1 : (wq).cell? ⟨w.heap.size, 1, none⟩ = some (.bool true) := SB.c1 Qq.X
  have x2 : (wq).cell? ⟨w.heap.size, 2, none⟩ = some (.int .i64 k) := SB.c2 Qq.X
  have o0 : (wq).cell? ⟨w.heap.size + 1, 0, none⟩ = some (.int .i64 2) := OB.c0 Qq.O
  have o1 : (wq).cell? ⟨w.heap.size + 1, 1, none⟩ = some (.int .i64 (i : Int)) := OB.c1 Qq.O
  have o2 : (wq).cell? ⟨w.heap.size + 1, 2, none⟩ = some (.int .i64 n) := OB.c2 Qq.O
  have o3 : (wq).cell? ⟨w.heap.size + 1, 3, none⟩ = some (.int .u8 (c8.toNat : Int)) := OB.c3 Qq.O
  have o4 : (wq).cell? ⟨w.heap.size + 1, 4, none⟩ = some (.string x) := OB.c4 Qq.O
  have r0 : (wq).cell? ⟨w.heap.size + 2, 0, none⟩ = some (.string ⟨#[]⟩) := SB.c0 Qq.R
  have r1 : (wq).cell? ⟨w.heap.size + 2, 1, none⟩ = some (.bool false) := SB.c1 Qq.R
  have r2 : (wq).cell? ⟨w.heap.size + 2, 2, none⟩ = some (.int .i64 0) := SB.c2 Qq.R
  have z0 := Blk.frozen Qq.R 0
  have z1 := Blk.frozen Qq.R 1
  have z2 := Blk.frozen Qq.R 2
  have lx := Blk.lt Qq.X
  have lo := Blk.lt Qq.O
  have lr := Blk.lt Qq.R
  have nx := Nat.ne_of_lt lx
  have no := Nat.ne_of_lt lo
  have nr := Nat.ne_of_lt lr
  have u0 := SB.c0 Yq
  have u1 := SB.c1 Yq
  have u2 := SB.c2 Yq
  have HQq := Lib.hid Qq
  have HTq := Lib.hid Tq
  have HYq := Lib.hid Yq
  clear Qq Tq Yq
  go_region_with (go_at_call 81; refine (bufSet_yes (i := i) c8 ((HQq.out.drew).Mo rfl) (by rw [← size_list]; have := HI.out; omega) (by rw [← size_list]; omega)).mono ?_; rintro e w4 ⟨rfl, m4, t4⟩; have Q4 : OneW (w4) w.heap.size b g d (s) (true) (k) (2) ((i : Int)) (n) ((c8.toNat : Int)) (x) ((putS s (strOf [c8]) i)) (true) (y)  := (HQq.out.drew).turn t4 (by simp; omega) (fun _ => by rw [putS_list, strOf_toList, over_one _ _ _ (by rw [← size_list]; have := HI.out; omega)]; exact m4) (fun h => absurd h (by decide)) (LedAt.turn (HQq.out.drew).L t4 (by simpa using hdg.symm)); have T4 : Turn [b, g, d] w w4 := (HTq.out.drew).trans (t4.mono (by simp)); have Y4 : SB w4 w1.heap.size ((putS s (strOf [c8]) i)) true k := Blk.turn (Blk.drew HYq.out) t4 (by simp; omega); clear x0 x1 x2 o0 o1 o2 o3 o4 r0 r1 r2 z0 z1 z2 lx lo lr nx no nr u0 u1 u2; have x0 : (w4).cell? ⟨w.heap.size, 0, none⟩ = some (.string s) := SB.c0 Q4.X; have x1 : (w4).cell? ⟨w.heap.size, 1, none⟩ = some (.bool true) := SB.c1 Q4.X; have x2 : (w4).cell? ⟨w.heap.size, 2, none⟩ = some (.int .i64 k) := SB.c2 Q4.X; have o0 : (w4).cell? ⟨w.heap.size + 1, 0, none⟩ = some (.int .i64 2) := OB.c0 Q4.O; have o1 : (w4).cell? ⟨w.heap.size + 1, 1, none⟩ = some (.int .i64 (i : Int)) := OB.c1 Q4.O; have o2 : (w4).cell? ⟨w.heap.size + 1, 2, none⟩ = some (.int .i64 n) := OB.c2 Q4.O; have o3 : (w4).cell? ⟨w.heap.size + 1, 3, none⟩ = some (.int .u8 (c8.toNat : Int)) := OB.c3 Q4.O; have o4 : (w4).cell? ⟨w.heap.size + 1, 4, none⟩ = some (.string x) := OB.c4 Q4.O; have r0 : (w4).cell? ⟨w.heap.size + 2, 0, none⟩ = some (.string ⟨#[]⟩) := SB.c0 Q4.R; have r1 : (w4).cell? ⟨w.heap.size + 2, 1, none⟩ = some (.bool false) := SB.c1 Q4.R; have r2 : (w4).cell? ⟨w.heap.size + 2, 2, none⟩ = some (.int .i64 0) := SB.c2 Q4.R; have z0 := Blk.frozen Q4.R 0; have z1 := Blk.frozen Q4.R 1; have z2 := Blk.frozen Q4.R 2; have lx := Blk.lt Q4.X; have lo := Blk.lt Q4.O; have lr := Blk.lt Q4.R; have nx := Nat.ne_of_lt lx; have no := Nat.ne_of_lt lo; have nr := Nat.ne_of_lt lr; have u0 := SB.c0 Y4; have u1 := SB.c1 Y4; have u2 := SB.c2 Y4)
  all_goals go_wp2_with fail
  all_goals
    obtain ⟨fz, tz⟩ := OneW.fin (Q4) (T4) hb hg hd (Nat.le_refl _) ((putS s (strOf [c8]) i)) true k
    change bodyPost _ _ _ _ _ ((st3 (w4) (w.heap.size + 2) ((putS s (strOf [c8]) i)) true k))
    generalize ((st3 (w4) (w.heap.size + 2) ((putS s (strOf [c8]) i)) true k)) = we at fz tz ⊢
    have q0 := SB.c0 fz
    have q1 := SB.c1 fz
    have q2 := SB.c2 fz
    exact bodyPost_ret (v := .tuple #[.agg #[.string (putS s (strOf [c8]) i), .bool true, .int .i64 k], .bool true]) (by simp [results, Try.results38, go_sem, q0, q1, q2]) rfl ⟨rfl, tz⟩

set_option maxRecDepth 100000 in
set_option maxHeartbeats 1000000 in
theorem one_set_no {w : World} {b g d : Nat} {s x : ByteArray} {y : Led} {k : Int} {i : Int} {n : Int} {c8 : UInt8} (hs : s.size ≤ 1000) (hx : x.size ≤ 1000) (hb : b < w.heap.size) (hg : g < w.heap.size) (hd : d < w.heap.size) (hM : BufAt w b g d s.data.toList) (hL : LedAt w g y) (hfi : fitI i) (hno : ¬ ThereP s.size true i 1) :
    Calls Try.prog 38 #[.pointer (some ⟨b, 0, none⟩), .agg #[.string s, .bool true, .int .i64 k], .agg #[.int .i64 2, .int .i64 i, .int .i64 n, .int .u8 (c8.toNat : Int), .string x]] w fun e w' => e = .returned (.tuple #[.agg #[.string s, .bool true, .int .i64 k], .bool true]) ∧ OneEnd w w' b g d (s) (true) (y) := by
  have Q3 : OneW ((((w.alloc (.cells #[.string s, .bool true, .int .i64 k] 67)).alloc (.cells #[.int .i64 2, .int .i64 i, .int .i64 n, .int .u8 (c8.toNat : Int), .string x] 69)).alloc (.cells #[.string ⟨#[]⟩, .bool false, .int .i64 0] 67))) w.heap.size b g d (s) (true) (k) (2) (i) (n) ((c8.toNat : Int)) (x) (s) (true) (y)  := ⟨((Blk.new _ _ _).alloc _).alloc _, (Blk.new_at _ _ _ (by simp)).alloc _, Blk.new_at _ _ _ (by simp), fun _ => ⟨((hM.blk.alloc _).alloc _).alloc _, ((hM.row.alloc _).alloc _).alloc _⟩, fun h => absurd h (by decide), ((Blk.alloc hL _).alloc _).alloc _⟩
  have HQ3 := Lib.hid Q3
  have HT3 : Hid (Turn [b, g, d] w (((w.alloc (.cells #[.string s, .bool true, .int .i64 k] 67)).alloc (.cells #[.int .i64 2, .int .i64 i, .int .i64 n, .int .u8 (c8.toNat : Int), .string x] 69)).alloc (.cells #[.string ⟨#[]⟩, .bool false, .int .i64 0] 67))) := Lib.hid ((((Turn.refl _ _).alloc _).alloc _).alloc _)
  have hfn : fitI 1 := by constructor <;> omega
  have HB : Hid (∀ wz : World, OneW (wz) w.heap.size b g d (s) (true) (k) (2) (i) (n) ((c8.toNat : Int)) (x) (s) (true) (y)  → Calls Try.prog 81 #[.pointer (some ⟨b, 0, none⟩), .int .i64 i, .int .u8 (c8.toNat : Int)] wz fun e w' => e = .returned (.bool false) ∧ wz = w') := Lib.hid (fun wz Q3 => bufSet_no (bufThere_no (Q3.Mo rfl) (by have h : ¬ ((0 : Int) ≤ i ∧ (0 : Int) ≤ 1 ∧ i + 1 ≤ (s.size : Int)) := fun q => hno ⟨rfl, q⟩; rw [← size_list]; omega) (by rw [← size_list]; omega) hfi hfn))
  have HP : Hid (∀ w : World, Calls Try.prog 80 #[.agg #[.string s, .bool true, .int .i64 k], .int .i64 i, .string (strOf [c8])] w fun e w' => e = .returned (.tuple #[.agg #[.string s, .bool true, .int .i64 k], .bool false]) ∧ Below w.heap.size w w') := Lib.hid (fun w => rput_no (s := s) (x := (strOf [c8])) (by omega) (by rw [strOf_size]; simp) (by rw [strOf_size]; exact hno) hfi)
  have HCB : Hid (((((w.alloc (.cells #[.string s, .bool true, .int .i64 k] 67)).alloc (.cells #[.int .i64 2, .int .i64 i, .int .i64 n, .int .u8 (c8.toNat : Int), .string x] 69)).alloc (.cells #[.string ⟨#[]⟩, .bool false, .int .i64 0] 67)).alloc (.cells #[.int .u8 (c8.toNat : Int)] 5)).cell? ⟨w.heap.size + 1 + 1 + 1, 0, none⟩ = some (.int .u8 (c8.toNat : Int))) := Lib.hid (Blk.cell (Blk.new_at _ _ _ (by simp)) 0)
  have HM := Lib.hid hM
  have HL := Lib.hid hL
  clear Q3 hM hL
  go_enter Try.func38, Try.ntmps38
  go_wp2_with (first
    | (go_at_call 80; refine (HP.out _).mono ?_; rintro e w1 ⟨rfl, b1⟩; have Q1 : OneW (w1) w.heap.size b g d (s) (true) (k) (2) (i) (n) ((c8.toNat : Int)) (x) (s) (true) (y)  := (HQ3.out.alloc _).below b1; have T1 := (HT3.out.alloc _).trans (Turn.of_below b1); have x0 : (w1).cell? ⟨w.heap.size, 0, none⟩ = some (.string s) := SB.c0 Q1.X; have x1 : (w1).cell? ⟨w.heap.size, 1, none⟩ = some (.bool true) := SB.c1 Q1.X; have x2 : (w1).cell? ⟨w.heap.size, 2, none⟩ = some (.int .i64 k) := SB.c2 Q1.X; have o0 : (w1).cell? ⟨w.heap.size + 1, 0, none⟩ = some (.int .i64 2) := OB.c0 Q1.O; have o1 : (w1).cell? ⟨w.heap.size + 1, 1, none⟩ = some (.int .i64 i) := OB.c1 Q1.O; have o2 : (w1).cell? ⟨w.heap.size + 1, 2, none⟩ = some (.int .i64 n) := OB.c2 Q1.O; have o3 : (w1).cell? ⟨w.heap.size + 1, 3, none⟩ = some (.int .u8 (c8.toNat : Int)) := OB.c3 Q1.O; have o4 : (w1).cell? ⟨w.heap.size + 1, 4, none⟩ = some (.string x) := OB.c4 Q1.O; have r0 : (w1).cell? ⟨w.heap.size + 2, 0, none⟩ = some (.string ⟨#[]⟩) := SB.c0 Q1.R; have r1 : (w1).cell? ⟨w.heap.size + 2, 1, none⟩ = some (.bool false) := SB.c1 Q1.R; have r2 : (w1).cell? ⟨w.heap.size + 2, 2, none⟩ = some (.int .i64 0) := SB.c2 Q1.R; have z0 := Blk.frozen Q1.R 0; have z1 := Blk.frozen Q1.R 1; have z2 := Blk.frozen Q1.R 2; have lx := Blk.lt Q1.X; have lo := Blk.lt Q1.O; have lr := Blk.lt Q1.R; have nx := Nat.ne_of_lt lx; have no := Nat.ne_of_lt lo; have nr := Nat.ne_of_lt lr)
    | (refine wpList_convert_byte rfl (.tmp 65) 9 Try.underlying9 rfl _ 1 rfl c8 HCB.out ?_))
  have Qq : OneW ((w1.alloc (.cells #[.string s, .bool true, .int .i64 k] 67))) w.heap.size b g d (s) (true) (k) (2) (i) (n) ((c8.toNat : Int)) (x) (s) (true) (y)  := Q1.alloc _
  have Tq : Turn [b, g, d] w (w1.alloc (.cells #[.string s, .bool true, .int .i64 k] 67)) := T1.alloc _
  have Yq : SB (w1.alloc (.cells #[.string s, .bool true, .int .i64 k] 67)) w1.heap.size (s) true k := Blk.new _ _ _
  have hyq : w1.heap.size < (w1.alloc (.cells #[.string s, .bool true, .int .i64 k] 67)).heap.size := by simp
  have hmy := lr
  clear x0 x1 x2 o0 o1 o2 o3 o4 r0 r1 r2 z0 z1 z2 lx lo lr nx no nr
  change Code.wp _ _ _ _ (w1.alloc (.cells #[.string s, .bool true, .int .i64 k] 67))
  generalize hwq : (w1.alloc (.cells #[.string s, .bool true, .int .i64 k] 67)) = wq at Qq Tq Yq hyq ⊢
  clear hwq
  have x0 : (wq).cell? ⟨w.heap.size, 0, none⟩ = some (.string s) := SB.c0 Qq.X
  have x1 : (wq).cell? ⟨w.heap.size, 1, none⟩ = some (.bool true) := SB.c1 Qq.X
  have x2 : (wq).cell? ⟨w.heap.size, 2, none⟩ = some (.int .i64 k) := SB.c2 Qq.X
  have o0 : (wq).cell? ⟨w.heap.size + 1, 0, none⟩ = some (.int .i64 2) := OB.c0 Qq.O
  have o1 : (wq).cell? ⟨w.heap.size + 1, 1, none⟩ = some (.int .i64 i) := OB.c1 Qq.O
  have o2 : (wq).cell? ⟨w.heap.size + 1, 2, none⟩ = some (.int .i64 n) := OB.c2 Qq.O
  have o3 : (wq).cell? ⟨w.heap.size + 1, 3, none⟩ = some (.int .u8 (c8.toNat : Int)) := OB.c3 Qq.O
  have o4 : (wq).cell? ⟨w.heap.size + 1, 4, none⟩ = some (.string x) := OB.c4 Qq.O
  have r0 : (wq).cell? ⟨w.heap.size + 2, 0, none⟩ = some (.string ⟨#[]⟩) := SB.c0 Qq.R
  have r1 : (wq).cell? ⟨w.heap.size + 2, 1, none⟩ = some (.bool false) := SB.c1 Qq.R
  have r2 : (wq).cell? ⟨w.heap.size + 2, 2, none⟩ = some (.int .i64 0) := SB.c2 Qq.R
  have z0 := Blk.frozen Qq.R 0
  have z1 := Blk.frozen Qq.R 1
  have z2 := Blk.frozen Qq.R 2
  have lx := Blk.lt Qq.X
  have lo := Blk.lt Qq.O
  have lr := Blk.lt Qq.R
  have nx := Nat.ne_of_lt lx
  have no := Nat.ne_of_lt lo
  have nr := Nat.ne_of_lt lr
  have u0 := SB.c0 Yq
  have u1 := SB.c1 Yq
  have u2 := SB.c2 Yq
  have HQq := Lib.hid Qq
  have HTq := Lib.hid Tq
  have HYq := Lib.hid Yq
  clear Qq Tq Yq
  go_region_with (go_at_call 81; refine (HB.out _ HQq.out.drew).mono ?_; rintro e w4 ⟨rfl, rfl⟩)
  all_goals go_wp2_with fail
  all_goals
    obtain ⟨fz, tz⟩ := OneW.fin (HQq.out.drew) (HTq.out.drew) hb hg hd (Nat.le_refl _) (s) true k
    change bodyPost _ _ _ _ _ ((st3 (wq.drew) (w.heap.size + 2) (s) true k))
    generalize ((st3 (wq.drew) (w.heap.size + 2) (s) true k)) = we at fz tz ⊢
    have q0 := SB.c0 fz
    have q1 := SB.c1 fz
    have q2 := SB.c2 fz
    exact bodyPost_ret (v := .tuple #[.agg #[.string s, .bool true, .int .i64 k], .bool true]) (by simp [results, Try.results38, go_sem, q0, q1, q2]) rfl ⟨rfl, tz⟩

set_option maxRecDepth 100000 in
set_option maxHeartbeats 1000000 in
theorem one_set_off {w : World} {b g d : Nat} {s x : ByteArray} {y : Led} {k : Int} {i : Int} {n : Int} {c8 : UInt8} (hs : s.size ≤ 1000) (hx : x.size ≤ 1000) (hb : b < w.heap.size) (hg : g < w.heap.size) (hd : d < w.heap.size) (hM : BufOff w b g) (hL : LedAt w g y) (hfi : fitI i) (hno : ¬ ThereP s.size false i 1) :
    Calls Try.prog 38 #[.pointer (some ⟨b, 0, none⟩), .agg #[.string s, .bool false, .int .i64 k], .agg #[.int .i64 2, .int .i64 i, .int .i64 n, .int .u8 (c8.toNat : Int), .string x]] w fun e w' => e = .returned (.tuple #[.agg #[.string s, .bool false, .int .i64 k], .bool true]) ∧ OneEnd w w' b g d (s) (false) (y) := by
  have Q3 : OneW ((((w.alloc (.cells #[.string s, .bool false, .int .i64 k] 67)).alloc (.cells #[.int .i64 2, .int .i64 i, .int .i64 n, .int .u8 (c8.toNat : Int), .string x] 69)).alloc (.cells #[.string ⟨#[]⟩, .bool false, .int .i64 0] 67))) w.heap.size b g d (s) (false) (k) (2) (i) (n) ((c8.toNat : Int)) (x) (s) (false) (y)  := ⟨((Blk.new _ _ _).alloc _).alloc _, (Blk.new_at _ _ _ (by simp)).alloc _, Blk.new_at _ _ _ (by simp), fun h => absurd h (by decide), fun _ => ((Blk.alloc hM _).alloc _).alloc _, ((Blk.alloc hL _).alloc _).alloc _⟩
  have HQ3 := Lib.hid Q3
  have HT3 : Hid (Turn [b, g, d] w (((w.alloc (.cells #[.string s, .bool false, .int .i64 k] 67)).alloc (.cells #[.int .i64 2, .int .i64 i, .int .i64 n, .int .u8 (c8.toNat : Int), .string x] 69)).alloc (.cells #[.string ⟨#[]⟩, .bool false, .int .i64 0] 67))) := Lib.hid ((((Turn.refl _ _).alloc _).alloc _).alloc _)
  have hfn : fitI 1 := by constructor <;> omega
  have HB : Hid (∀ wz : World, OneW (wz) w.heap.size b g d (s) (false) (k) (2) (i) (n) ((c8.toNat : Int)) (x) (s) (false) (y)  → Calls Try.prog 81 #[.pointer (some ⟨b, 0, none⟩), .int .i64 i, .int .u8 (c8.toNat : Int)] wz fun e w' => e = .returned (.bool false) ∧ wz = w') := Lib.hid (fun wz Q3 => bufSet_no (bufThere_off (Q3.Mf rfl)))
  have HP : Hid (∀ w : World, Calls Try.prog 80 #[.agg #[.string s, .bool false, .int .i64 k], .int .i64 i, .string (strOf [c8])] w fun e w' => e = .returned (.tuple #[.agg #[.string s, .bool false, .int .i64 k], .bool false]) ∧ Below w.heap.size w w') := Lib.hid (fun w => rput_no (s := s) (x := (strOf [c8])) (by omega) (by rw [strOf_size]; simp) (by rw [strOf_size]; exact hno) hfi)
  have HCB : Hid (((((w.alloc (.cells #[.string s, .bool false, .int .i64 k] 67)).alloc (.cells #[.int .i64 2, .int .i64 i, .int .i64 n, .int .u8 (c8.toNat : Int), .string x] 69)).alloc (.cells #[.string ⟨#[]⟩, .bool false, .int .i64 0] 67)).alloc (.cells #[.int .u8 (c8.toNat : Int)] 5)).cell? ⟨w.heap.size + 1 + 1 + 1, 0, none⟩ = some (.int .u8 (c8.toNat : Int))) := Lib.hid (Blk.cell (Blk.new_at _ _ _ (by simp)) 0)
  have HM := Lib.hid hM
  have HL := Lib.hid hL
  clear Q3 hM hL
  go_enter Try.func38, Try.ntmps38
  go_wp2_with (first
    | (go_at_call 80; refine (HP.out _).mono ?_; rintro e w1 ⟨rfl, b1⟩; have Q1 : OneW (w1) w.heap.size b g d (s) (false) (k) (2) (i) (n) ((c8.toNat : Int)) (x) (s) (false) (y)  := (HQ3.out.alloc _).below b1; have T1 := (HT3.out.alloc _).trans (Turn.of_below b1); have x0 : (w1).cell? ⟨w.heap.size, 0, none⟩ = some (.string s) := SB.c0 Q1.X; have x1 : (w1).cell? ⟨w.heap.size, 1, none⟩ = some (.bool false) := SB.c1 Q1.X; have x2 : (w1).cell? ⟨w.heap.size, 2, none⟩ = some (.int .i64 k) := SB.c2 Q1.X; have o0 : (w1).cell? ⟨w.heap.size + 1, 0, none⟩ = some (.int .i64 2) := OB.c0 Q1.O; have o1 : (w1).cell? ⟨w.heap.size + 1, 1, none⟩ = some (.int .i64 i) := OB.c1 Q1.O; have o2 : (w1).cell? ⟨w.heap.size + 1, 2, none⟩ = some (.int .i64 n) := OB.c2 Q1.O; have o3 : (w1).cell? ⟨w.heap.size + 1, 3, none⟩ = some (.int .u8 (c8.toNat : Int)) := OB.c3 Q1.O; have o4 : (w1).cell? ⟨w.heap.size + 1, 4, none⟩ = some (.string x) := OB.c4 Q1.O; have r0 : (w1).cell? ⟨w.heap.size + 2, 0, none⟩ = some (.string ⟨#[]⟩) := SB.c0 Q1.R; have r1 : (w1).cell? ⟨w.heap.size + 2, 1, none⟩ = some (.bool false) := SB.c1 Q1.R; have r2 : (w1).cell? ⟨w.heap.size + 2, 2, none⟩ = some (.int .i64 0) := SB.c2 Q1.R; have z0 := Blk.frozen Q1.R 0; have z1 := Blk.frozen Q1.R 1; have z2 := Blk.frozen Q1.R 2; have lx := Blk.lt Q1.X; have lo := Blk.lt Q1.O; have lr := Blk.lt Q1.R; have nx := Nat.ne_of_lt lx; have no := Nat.ne_of_lt lo; have nr := Nat.ne_of_lt lr)
    | (refine wpList_convert_byte rfl (.tmp 65) 9 Try.underlying9 rfl _ 1 rfl c8 HCB.out ?_))
  have Qq : OneW ((w1.alloc (.cells #[.string s, .bool false, .int .i64 k] 67))) w.heap.size b g d (s) (false) (k) (2) (i) (n) ((c8.toNat : Int)) (x) (s) (false) (y)  := Q1.alloc _
  have Tq : Turn [b, g, d] w (w1.alloc (.cells #[.string s, .bool false, .int .i64 k] 67)) := T1.alloc _
  have Yq : SB (w1.alloc (.cells #[.string s, .bool false, .int .i64 k] 67)) w1.heap.size (s) false k := Blk.new _ _ _
  have hyq : w1.heap.size < (w1.alloc (.cells #[.string s, .bool false, .int .i64 k] 67)).heap.size := by simp
  have hmy := lr
  clear x0 x1 x2 o0 o1 o2 o3 o4 r0 r1 r2 z0 z1 z2 lx lo lr nx no nr
  change Code.wp _ _ _ _ (w1.alloc (.cells #[.string s, .bool false, .int .i64 k] 67))
  generalize hwq : (w1.alloc (.cells #[.string s, .bool false, .int .i64 k] 67)) = wq at Qq Tq Yq hyq ⊢
  clear hwq
  have x0 : (wq).cell? ⟨w.heap.size, 0, none⟩ = some (.string s) := SB.c0 Qq.X
  have x1 : (wq).cell? ⟨w.heap.size, 1, none⟩ = some (.bool false) := SB.c1 Qq.X
  have x2 : (wq).cell? ⟨w.heap.size, 2, none⟩ = some (.int .i64 k) := SB.c2 Qq.X
  have o0 : (wq).cell? ⟨w.heap.size + 1, 0, none⟩ = some (.int .i64 2) := OB.c0 Qq.O
  have o1 : (wq).cell? ⟨w.heap.size + 1, 1, none⟩ = some (.int .i64 i) := OB.c1 Qq.O
  have o2 : (wq).cell? ⟨w.heap.size + 1, 2, none⟩ = some (.int .i64 n) := OB.c2 Qq.O
  have o3 : (wq).cell? ⟨w.heap.size + 1, 3, none⟩ = some (.int .u8 (c8.toNat : Int)) := OB.c3 Qq.O
  have o4 : (wq).cell? ⟨w.heap.size + 1, 4, none⟩ = some (.string x) := OB.c4 Qq.O
  have r0 : (wq).cell? ⟨w.heap.size + 2, 0, none⟩ = some (.string ⟨#[]⟩) := SB.c0 Qq.R
  have r1 : (wq).cell? ⟨w.heap.size + 2, 1, none⟩ = some (.bool false) := SB.c1 Qq.R
  have r2 : (wq).cell? ⟨w.heap.size + 2, 2, none⟩ = some (.int .i64 0) := SB.c2 Qq.R
  have z0 := Blk.frozen Qq.R 0
  have z1 := Blk.frozen Qq.R 1
  have z2 := Blk.frozen Qq.R 2
  have lx := Blk.lt Qq.X
  have lo := Blk.lt Qq.O
  have lr := Blk.lt Qq.R
  have nx := Nat.ne_of_lt lx
  have no := Nat.ne_of_lt lo
  have nr := Nat.ne_of_lt lr
  have u0 := SB.c0 Yq
  have u1 := SB.c1 Yq
  have u2 := SB.c2 Yq
  have HQq := Lib.hid Qq
  have HTq := Lib.hid Tq
  have HYq := Lib.hid Yq
  clear Qq Tq Yq
  go_region_with (go_at_call 81; refine (HB.out _ HQq.out.drew).mono ?_; rintro e w4 ⟨rfl, rfl⟩)
  all_goals go_wp2_with fail
  all_goals
    obtain ⟨fz, tz⟩ := OneW.fin (HQq.out.drew) (HTq.out.drew) hb hg hd (Nat.le_refl _) (s) false k
    change bodyPost _ _ _ _ _ ((st3 (wq.drew) (w.heap.size + 2) (s) false k))
    generalize ((st3 (wq.drew) (w.heap.size + 2) (s) false k)) = we at fz tz ⊢
    have q0 := SB.c0 fz
    have q1 := SB.c1 fz
    have q2 := SB.c2 fz
    exact bodyPost_ret (v := .tuple #[.agg #[.string s, .bool false, .int .i64 k], .bool true]) (by simp [results, Try.results38, go_sem, q0, q1, q2]) rfl ⟨rfl, tz⟩

end Go.Proofs.Ytegoakfhadmblaa
