/- One call of both: Fill, Out. -/
import Derived.Test.YtegoakfhadmblaaBufOne
namespace Go.Proofs.Ytegoakfhadmblaa
open Go.RowKit
set_option linter.unusedVariables false
set_option linter.unusedSimpArgs false

theorem outText {w : World} {d : Nat} {s : ByteArray} (h : Blk w d 5 (C8 s.data.toList).toArray) : (convert 86 9 (.slice (some ⟨d, 0, none⟩) s.size s.size)).run Try.prog w.drew = .ok (.string s) w.drew := by
  have e := run_convert_bytes_back (P := Try.prog) w.drew 86 9 5 ⟨d, 0, none⟩ s.data.toList.length s.data.toList Try.underlying86 Try.underlying5 Try.underlying9 (fun j hj => by
    have e : (⟨d, 0, none⟩ : Addr).add j = ⟨d, j, none⟩ := by
      unfold Addr.add
      split
      · rename_i h; subst h; rfl
      · simp
    rw [e]
    have hc := Blk.cell h.drew j
    rw [hc]
    simp only [C8, List.getElem?_toArray, List.getElem?_map, List.getElem?_eq_getElem hj]
    rfl)
  rw [← size_list] at e
  rw [e]
theorem nilText : ∀ W, (convert 86 9 (.slice none 0 0)).run Try.prog W = .ok (.string ⟨#[]⟩) W := fun _ => by kernel_rfl
theorem bufOut_text {w : World} {b g d : Nat} {s : ByteArray} (h : BufAt w b g d s.data.toList) :
    Calls Try.prog 84 #[.pointer (some ⟨b, 0, none⟩)] w fun e w' => e = .returned (.tuple #[.slice (some ⟨d, 0, none⟩) s.size s.size, .bool true]) ∧ BufOff w' b g ∧ Turn [b] w w' := by
  have := bufOut_first h
  rw [← size_list] at this
  exact this

set_option maxRecDepth 100000 in
set_option maxHeartbeats 1000000 in
theorem one_fill_no {w : World} {b g d : Nat} {s x : ByteArray} {y : Led} {k : Int} {i n v : Int} (hs : s.size ≤ 1000) (hx : x.size ≤ 1000) (hb : b < w.heap.size) (hg : g < w.heap.size) (hd : d < w.heap.size) (hM : BufAt w b g d s.data.toList) (hL : LedAt w g y) (hfi : fitI i) (hfn : fitI n) (hno : ¬ ThereP s.size true i n) :
    Calls Try.prog 38 #[.pointer (some ⟨b, 0, none⟩), .agg #[.string s, .bool true, .int .i64 k], .agg #[.int .i64 4, .int .i64 i, .int .i64 n, .int .u8 v, .string x]] w fun e w' => e = .returned (.tuple #[.agg #[.string s, .bool true, .int .i64 k], .bool true]) ∧ OneEnd w w' b g d (s) (true) (y) := by
  have Q3 : OneW ((((w.alloc (.cells #[.string s, .bool true, .int .i64 k] 67)).alloc (.cells #[.int .i64 4, .int .i64 i, .int .i64 n, .int .u8 v, .string x] 69)).alloc (.cells #[.string ⟨#[]⟩, .bool false, .int .i64 0] 67))) w.heap.size b g d (s) (true) (k) (4) (i) (n) (v) (x) (s) (true) (y)  := ⟨((Blk.new _ _ _).alloc _).alloc _, (Blk.new_at _ _ _ (by simp)).alloc _, Blk.new_at _ _ _ (by simp), fun _ => ⟨((hM.blk.alloc _).alloc _).alloc _, ((hM.row.alloc _).alloc _).alloc _⟩, fun h => absurd h (by decide), ((Blk.alloc hL _).alloc _).alloc _⟩
  have HQ3 := Lib.hid Q3
  have HT3 : Hid (Turn [b, g, d] w (((w.alloc (.cells #[.string s, .bool true, .int .i64 k] 67)).alloc (.cells #[.int .i64 4, .int .i64 i, .int .i64 n, .int .u8 v, .string x] 69)).alloc (.cells #[.string ⟨#[]⟩, .bool false, .int .i64 0] 67))) := Lib.hid ((((Turn.refl _ _).alloc _).alloc _).alloc _)
  have HB : Hid (Calls Try.prog 82 #[.pointer (some ⟨b, 0, none⟩), .int .i64 i, .int .i64 n, .int .u8 v] (((w.alloc (.cells #[.string s, .bool true, .int .i64 k] 67)).alloc (.cells #[.int .i64 4, .int .i64 i, .int .i64 n, .int .u8 v, .string x] 69)).alloc (.cells #[.string ⟨#[]⟩, .bool false, .int .i64 0] 67)) fun e w' => e = .returned (.bool false) ∧ (((w.alloc (.cells #[.string s, .bool true, .int .i64 k] 67)).alloc (.cells #[.int .i64 4, .int .i64 i, .int .i64 n, .int .u8 v, .string x] 69)).alloc (.cells #[.string ⟨#[]⟩, .bool false, .int .i64 0] 67)) = w') := Lib.hid (bufFill_no (bufThere_no (Q3.Mo rfl) (by have h : ¬ ((0 : Int) ≤ i ∧ (0 : Int) ≤ n ∧ i + n ≤ (s.size : Int)) := fun q => hno ⟨rfl, q⟩; rw [← size_list]; omega) (by rw [← size_list]; omega) hfi hfn))
  have HTH : Hid (∀ w : World, Calls Try.prog 79 #[.agg #[.string s, .bool true, .int .i64 k], .int .i64 i, .int .i64 n] w fun e w' => e = .returned (.bool false) ∧ Below w.heap.size w w') := Lib.hid (fun w => rthere_no (by omega) hno hfi hfn)
  have HM := Lib.hid hM
  have HL := Lib.hid hL
  clear Q3 hM hL
  go_enter Try.func38, Try.ntmps38
  go_wp2_with (first
    | (go_at_call 82; refine HB.out.mono ?_; rintro e w9 ⟨rfl, rfl⟩)
    | (go_at_call 79; refine (HTH.out _).mono ?_; rintro e w1 ⟨rfl, b1⟩; have Q1 : OneW (w1) w.heap.size b g d (s) (true) (k) (4) (i) (n) (v) (x) (s) (true) (y)  := (HQ3.out).below b1; have T1 := (HT3.out).trans (Turn.of_below b1); have x0 : (w1).cell? ⟨w.heap.size, 0, none⟩ = some (.string s) := SB.c0 Q1.X; have x1 : (w1).cell? ⟨w.heap.size, 1, none⟩ = some (.bool true) := SB.c1 Q1.X; have x2 : (w1).cell? ⟨w.heap.size, 2, none⟩ = some (.int .i64 k) := SB.c2 Q1.X; have o0 : (w1).cell? ⟨w.heap.size + 1, 0, none⟩ = some (.int .i64 4) := OB.c0 Q1.O; have o1 : (w1).cell? ⟨w.heap.size + 1, 1, none⟩ = some (.int .i64 i) := OB.c1 Q1.O; have o2 : (w1).cell? ⟨w.heap.size + 1, 2, none⟩ = some (.int .i64 n) := OB.c2 Q1.O; have o3 : (w1).cell? ⟨w.heap.size + 1, 3, none⟩ = some (.int .u8 v) := OB.c3 Q1.O; have o4 : (w1).cell? ⟨w.heap.size + 1, 4, none⟩ = some (.string x) := OB.c4 Q1.O; have r0 : (w1).cell? ⟨w.heap.size + 2, 0, none⟩ = some (.string ⟨#[]⟩) := SB.c0 Q1.R; have r1 : (w1).cell? ⟨w.heap.size + 2, 1, none⟩ = some (.bool false) := SB.c1 Q1.R; have r2 : (w1).cell? ⟨w.heap.size + 2, 2, none⟩ = some (.int .i64 0) := SB.c2 Q1.R; have z0 := Blk.frozen Q1.R 0; have z1 := Blk.frozen Q1.R 1; have z2 := Blk.frozen Q1.R 2; have lx := Blk.lt Q1.X; have lo := Blk.lt Q1.O; have lr := Blk.lt Q1.R; have nx := Nat.ne_of_lt lx; have no := Nat.ne_of_lt lo; have nr := Nat.ne_of_lt lr))
  obtain ⟨fz, tz⟩ := OneW.fin (Q1) (T1) hb hg hd (Nat.le_refl _) (s) true k
  change bodyPost _ _ _ _ _ ((st3 (w1) (w.heap.size + 2) (s) true k))
  generalize ((st3 (w1) (w.heap.size + 2) (s) true k)) = we at fz tz ⊢
  have q0 := SB.c0 fz
  have q1 := SB.c1 fz
  have q2 := SB.c2 fz
  exact bodyPost_ret (v := .tuple #[.agg #[.string s, .bool true, .int .i64 k], .bool true]) (by simp [results, Try.results38, go_sem, q0, q1, q2]) rfl ⟨rfl, tz⟩

set_option maxRecDepth 100000 in
set_option maxHeartbeats 1000000 in
theorem one_fill_off {w : World} {b g d : Nat} {s x : ByteArray} {y : Led} {k : Int} {i n v : Int} (hs : s.size ≤ 1000) (hx : x.size ≤ 1000) (hb : b < w.heap.size) (hg : g < w.heap.size) (hd : d < w.heap.size) (hM : BufOff w b g) (hL : LedAt w g y) (hfi : fitI i) (hfn : fitI n) (hno : ¬ ThereP s.size false i n) :
    Calls Try.prog 38 #[.pointer (some ⟨b, 0, none⟩), .agg #[.string s, .bool false, .int .i64 k], .agg #[.int .i64 4, .int .i64 i, .int .i64 n, .int .u8 v, .string x]] w fun e w' => e = .returned (.tuple #[.agg #[.string s, .bool false, .int .i64 k], .bool true]) ∧ OneEnd w w' b g d (s) (false) (y) := by
  have Q3 : OneW ((((w.alloc (.cells #[.string s, .bool false, .int .i64 k] 67)).alloc (.cells #[.int .i64 4, .int .i64 i, .int .i64 n, .int .u8 v, .string x] 69)).alloc (.cells #[.string ⟨#[]⟩, .bool false, .int .i64 0] 67))) w.heap.size b g d (s) (false) (k) (4) (i) (n) (v) (x) (s) (false) (y)  := ⟨((Blk.new _ _ _).alloc _).alloc _, (Blk.new_at _ _ _ (by simp)).alloc _, Blk.new_at _ _ _ (by simp), fun h => absurd h (by decide), fun _ => ((Blk.alloc hM _).alloc _).alloc _, ((Blk.alloc hL _).alloc _).alloc _⟩
  have HQ3 := Lib.hid Q3
  have HT3 : Hid (Turn [b, g, d] w (((w.alloc (.cells #[.string s, .bool false, .int .i64 k] 67)).alloc (.cells #[.int .i64 4, .int .i64 i, .int .i64 n, .int .u8 v, .string x] 69)).alloc (.cells #[.string ⟨#[]⟩, .bool false, .int .i64 0] 67))) := Lib.hid ((((Turn.refl _ _).alloc _).alloc _).alloc _)
  have HB : Hid (Calls Try.prog 82 #[.pointer (some ⟨b, 0, none⟩), .int .i64 i, .int .i64 n, .int .u8 v] (((w.alloc (.cells #[.string s, .bool false, .int .i64 k] 67)).alloc (.cells #[.int .i64 4, .int .i64 i, .int .i64 n, .int .u8 v, .string x] 69)).alloc (.cells #[.string ⟨#[]⟩, .bool false, .int .i64 0] 67)) fun e w' => e = .returned (.bool false) ∧ (((w.alloc (.cells #[.string s, .bool false, .int .i64 k] 67)).alloc (.cells #[.int .i64 4, .int .i64 i, .int .i64 n, .int .u8 v, .string x] 69)).alloc (.cells #[.string ⟨#[]⟩, .bool false, .int .i64 0] 67)) = w') := Lib.hid (bufFill_no (bufThere_off (Q3.Mf rfl)))
  have HTH : Hid (∀ w : World, Calls Try.prog 79 #[.agg #[.string s, .bool false, .int .i64 k], .int .i64 i, .int .i64 n] w fun e w' => e = .returned (.bool false) ∧ Below w.heap.size w w') := Lib.hid (fun w => rthere_no (by omega) hno hfi hfn)
  have HM := Lib.hid hM
  have HL := Lib.hid hL
  clear Q3 hM hL
  go_enter Try.func38, Try.ntmps38
  go_wp2_with (first
    | (go_at_call 82; refine HB.out.mono ?_; rintro e w9 ⟨rfl, rfl⟩)
    | (go_at_call 79; refine (HTH.out _).mono ?_; rintro e w1 ⟨rfl, b1⟩; have Q1 : OneW (w1) w.heap.size b g d (s) (false) (k) (4) (i) (n) (v) (x) (s) (false) (y)  := (HQ3.out).below b1; have T1 := (HT3.out).trans (Turn.of_below b1); have x0 : (w1).cell? ⟨w.heap.size, 0, none⟩ = some (.string s) := SB.c0 Q1.X; have x1 : (w1).cell? ⟨w.heap.size, 1, none⟩ = some (.bool false) := SB.c1 Q1.X; have x2 : (w1).cell? ⟨w.heap.size, 2, none⟩ = some (.int .i64 k) := SB.c2 Q1.X; have o0 : (w1).cell? ⟨w.heap.size + 1, 0, none⟩ = some (.int .i64 4) := OB.c0 Q1.O; have o1 : (w1).cell? ⟨w.heap.size + 1, 1, none⟩ = some (.int .i64 i) := OB.c1 Q1.O; have o2 : (w1).cell? ⟨w.heap.size + 1, 2, none⟩ = some (.int .i64 n) := OB.c2 Q1.O; have o3 : (w1).cell? ⟨w.heap.size + 1, 3, none⟩ = some (.int .u8 v) := OB.c3 Q1.O; have o4 : (w1).cell? ⟨w.heap.size + 1, 4, none⟩ = some (.string x) := OB.c4 Q1.O; have r0 : (w1).cell? ⟨w.heap.size + 2, 0, none⟩ = some (.string ⟨#[]⟩) := SB.c0 Q1.R; have r1 : (w1).cell? ⟨w.heap.size + 2, 1, none⟩ = some (.bool false) := SB.c1 Q1.R; have r2 : (w1).cell? ⟨w.heap.size + 2, 2, none⟩ = some (.int .i64 0) := SB.c2 Q1.R; have z0 := Blk.frozen Q1.R 0; have z1 := Blk.frozen Q1.R 1; have z2 := Blk.frozen Q1.R 2; have lx := Blk.lt Q1.X; have lo := Blk.lt Q1.O; have lr := Blk.lt Q1.R; have nx := Nat.ne_of_lt lx; have no := Nat.ne_of_lt lo; have nr := Nat.ne_of_lt lr))
  obtain ⟨fz, tz⟩ := OneW.fin (Q1) (T1) hb hg hd (Nat.le_refl _) (s) false k
  change bodyPost _ _ _ _ _ ((st3 (w1) (w.heap.size + 2) (s) false k))
  generalize ((st3 (w1) (w.heap.size + 2) (s) false k)) = we at fz tz ⊢
  have q0 := SB.c0 fz
  have q1 := SB.c1 fz
  have q2 := SB.c2 fz
  exact bodyPost_ret (v := .tuple #[.agg #[.string s, .bool false, .int .i64 k], .bool true]) (by simp [results, Try.results38, go_sem, q0, q1, q2]) rfl ⟨rfl, tz⟩

set_option maxRecDepth 100000 in
set_option maxHeartbeats 1000000 in
theorem one_out_open {w : World} {b g d : Nat} {s x : ByteArray} {y : Led} {k : Int} {i n v : Int} (hs : s.size ≤ 1000) (hx : x.size ≤ 1000) (hb : b < w.heap.size) (hg : g < w.heap.size) (hd : d < w.heap.size) (hM : BufAt w b g d s.data.toList) (hL : LedAt w g y)  :
    Calls Try.prog 38 #[.pointer (some ⟨b, 0, none⟩), .agg #[.string s, .bool true, .int .i64 k], .agg #[.int .i64 7, .int .i64 i, .int .i64 n, .int .u8 v, .string x]] w fun e w' => e = .returned (.tuple #[.agg #[.string ⟨#[]⟩, .bool false, .int .i64 k], .bool true]) ∧ OneEnd w w' b g d (⟨#[]⟩) (false) (y) := by
  have Q3 : OneW ((((w.alloc (.cells #[.string s, .bool true, .int .i64 k] 67)).alloc (.cells #[.int .i64 7, .int .i64 i, .int .i64 n, .int .u8 v, .string x] 69)).alloc (.cells #[.string ⟨#[]⟩, .bool false, .int .i64 0] 67))) w.heap.size b g d (s) (true) (k) (7) (i) (n) (v) (x) (s) (true) (y)  := ⟨((Blk.new _ _ _).alloc _).alloc _, (Blk.new_at _ _ _ (by simp)).alloc _, Blk.new_at _ _ _ (by simp), fun _ => ⟨((hM.blk.alloc _).alloc _).alloc _, ((hM.row.alloc _).alloc _).alloc _⟩, fun h => absurd h (by decide), ((Blk.alloc hL _).alloc _).alloc _⟩
  have HQ3 := Lib.hid Q3
  have HT3 : Hid (Turn [b, g, d] w (((w.alloc (.cells #[.string s, .bool true, .int .i64 k] 67)).alloc (.cells #[.int .i64 7, .int .i64 i, .int .i64 n, .int .u8 v, .string x] 69)).alloc (.cells #[.string ⟨#[]⟩, .bool false, .int .i64 0] 67))) := Lib.hid ((((Turn.refl _ _).alloc _).alloc _).alloc _)
  have hbd := hM.bd
  have hbg := hM.bg hL
  have HM := Lib.hid hM
  have HL := Lib.hid hL
  clear Q3 hM hL
  go_enter Try.func38, Try.ntmps38
  go_wp2_with (go_at_call 84; refine (bufOut_text (HQ3.out.Mo rfl)).mono ?_; rintro e w1 ⟨rfl, m1, t1⟩; have Q1 : OneW (w1) w.heap.size b g d (s) (true) (k) (7) (i) (n) (v) (x) (⟨#[]⟩) (false) (y)  := (HQ3.out).turn t1 (by simp; omega) (fun h => absurd h (by decide)) (fun _ => m1) (LedAt.turn (HQ3.out).L t1 (by simpa using hbg.symm)); have T1 := (HT3.out).trans (t1.mono (by simp)); have row1 := Blk.turn (HQ3.out.Mo rfl).row t1 (by simpa using hbd.symm); have hcv := outText row1; have hcv2 : (convert 86 9 (.slice (some ⟨d, 0, none⟩) s.size s.size)).run Try.prog (((w1.setCell ⟨w.heap.size + 1 + 1, 0, none⟩ (.string ⟨#[]⟩)).setCell ⟨w.heap.size + 1 + 1, 1, none⟩ (.bool false)).setCell ⟨w.heap.size + 1 + 1, 2, none⟩ (.int .i64 k)).drew = .ok (.string s) (((w1.setCell ⟨w.heap.size + 1 + 1, 0, none⟩ (.string ⟨#[]⟩)).setCell ⟨w.heap.size + 1 + 1, 1, none⟩ (.bool false)).setCell ⟨w.heap.size + 1 + 1, 2, none⟩ (.int .i64 k)).drew := outText (Blk.st3 (b := w.heap.size + 1 + 1) row1 (by omega)); have x0 : (w1).cell? ⟨w.heap.size, 0, none⟩ = some (.string s) := SB.c0 Q1.X; have x1 : (w1).cell? ⟨w.heap.size, 1, none⟩ = some (.bool true) := SB.c1 Q1.X; have x2 : (w1).cell? ⟨w.heap.size, 2, none⟩ = some (.int .i64 k) := SB.c2 Q1.X; have o0 : (w1).cell? ⟨w.heap.size + 1, 0, none⟩ = some (.int .i64 7) := OB.c0 Q1.O; have o1 : (w1).cell? ⟨w.heap.size + 1, 1, none⟩ = some (.int .i64 i) := OB.c1 Q1.O; have o2 : (w1).cell? ⟨w.heap.size + 1, 2, none⟩ = some (.int .i64 n) := OB.c2 Q1.O; have o3 : (w1).cell? ⟨w.heap.size + 1, 3, none⟩ = some (.int .u8 v) := OB.c3 Q1.O; have o4 : (w1).cell? ⟨w.heap.size + 1, 4, none⟩ = some (.string x) := OB.c4 Q1.O; have r0 : (w1).cell? ⟨w.heap.size + 2, 0, none⟩ = some (.string ⟨#[]⟩) := SB.c0 Q1.R; have r1 : (w1).cell? ⟨w.heap.size + 2, 1, none⟩ = some (.bool false) := SB.c1 Q1.R; have r2 : (w1).cell? ⟨w.heap.size + 2, 2, none⟩ = some (.int .i64 0) := SB.c2 Q1.R; have z0 := Blk.frozen Q1.R 0; have z1 := Blk.frozen Q1.R 1; have z2 := Blk.frozen Q1.R 2; have lx := Blk.lt Q1.X; have lo := Blk.lt Q1.O; have lr := Blk.lt Q1.R; have nx := Nat.ne_of_lt lx; have no := Nat.ne_of_lt lo; have nr := Nat.ne_of_lt lr)
  go_region
  all_goals go_wp2_with fail
  obtain ⟨fz, tz⟩ := OneW.fin (Q1) (T1) hb hg hd (Nat.le_refl _) (⟨#[]⟩) false k
  replace fz : SB ((st3 (w1) (w.heap.size + 2) (⟨#[]⟩) false k).drew) (w.heap.size + 2) (⟨#[]⟩) false k := Blk.drew fz
  replace tz := OneEnd.drew tz
  change bodyPost _ _ _ _ _ ((st3 (w1) (w.heap.size + 2) (⟨#[]⟩) false k).drew)
  generalize ((st3 (w1) (w.heap.size + 2) (⟨#[]⟩) false k).drew) = we at fz tz ⊢
  have q0 := SB.c0 fz
  have q1 := SB.c1 fz
  have q2 := SB.c2 fz
  exact bodyPost_ret (v := .tuple #[.agg #[.string ⟨#[]⟩, .bool false, .int .i64 k], .bool true]) (by simp [results, Try.results38, go_sem, q0, q1, q2]) rfl ⟨rfl, tz⟩

set_option maxRecDepth 100000 in
set_option maxHeartbeats 1000000 in
theorem one_out_shut {w : World} {b g d : Nat} {s x : ByteArray} {y : Led} {k : Int} {i n v : Int} (hs : s.size ≤ 1000) (hx : x.size ≤ 1000) (hb : b < w.heap.size) (hg : g < w.heap.size) (hd : d < w.heap.size) (hM : BufOff w b g) (hL : LedAt w g y)  :
    Calls Try.prog 38 #[.pointer (some ⟨b, 0, none⟩), .agg #[.string ⟨#[]⟩, .bool false, .int .i64 k], .agg #[.int .i64 7, .int .i64 i, .int .i64 n, .int .u8 v, .string x]] w fun e w' => e = .returned (.tuple #[.agg #[.string ⟨#[]⟩, .bool false, .int .i64 k], .bool true]) ∧ OneEnd w w' b g d (⟨#[]⟩) (false) (y) := by
  have Q3 : OneW ((((w.alloc (.cells #[.string ⟨#[]⟩, .bool false, .int .i64 k] 67)).alloc (.cells #[.int .i64 7, .int .i64 i, .int .i64 n, .int .u8 v, .string x] 69)).alloc (.cells #[.string ⟨#[]⟩, .bool false, .int .i64 0] 67))) w.heap.size b g d (⟨#[]⟩) (false) (k) (7) (i) (n) (v) (x) (⟨#[]⟩) (false) (y)  := ⟨((Blk.new _ _ _).alloc _).alloc _, (Blk.new_at _ _ _ (by simp)).alloc _, Blk.new_at _ _ _ (by simp), fun h => absurd h (by decide), fun _ => ((Blk.alloc hM _).alloc _).alloc _, ((Blk.alloc hL _).alloc _).alloc _⟩
  have HQ3 := Lib.hid Q3
  have HT3 : Hid (Turn [b, g, d] w (((w.alloc (.cells #[.string ⟨#[]⟩, .bool false, .int .i64 k] 67)).alloc (.cells #[.int .i64 7, .int .i64 i, .int .i64 n, .int .u8 v, .string x] 69)).alloc (.cells #[.string ⟨#[]⟩, .bool false, .int .i64 0] 67))) := Lib.hid ((((Turn.refl _ _).alloc _).alloc _).alloc _)
  have HM := Lib.hid hM
  have HL := Lib.hid hL
  clear Q3 hM hL
  go_enter Try.func38, Try.ntmps38
  go_wp2_with (go_at_call 84; refine (bufOut_done (HQ3.out.Mf rfl)).mono ?_; rintro e w1 ⟨rfl, b1⟩; have Q1 : OneW (w1) w.heap.size b g d (⟨#[]⟩) (false) (k) (7) (i) (n) (v) (x) (⟨#[]⟩) (false) (y)  := (HQ3.out).below b1; have T1 := (HT3.out).trans (Turn.of_below b1); have hcn := nilText; have x0 : (w1).cell? ⟨w.heap.size, 0, none⟩ = some (.string ⟨#[]⟩) := SB.c0 Q1.X; have x1 : (w1).cell? ⟨w.heap.size, 1, none⟩ = some (.bool false) := SB.c1 Q1.X; have x2 : (w1).cell? ⟨w.heap.size, 2, none⟩ = some (.int .i64 k) := SB.c2 Q1.X; have o0 : (w1).cell? ⟨w.heap.size + 1, 0, none⟩ = some (.int .i64 7) := OB.c0 Q1.O; have o1 : (w1).cell? ⟨w.heap.size + 1, 1, none⟩ = some (.int .i64 i) := OB.c1 Q1.O; have o2 : (w1).cell? ⟨w.heap.size + 1, 2, none⟩ = some (.int .i64 n) := OB.c2 Q1.O; have o3 : (w1).cell? ⟨w.heap.size + 1, 3, none⟩ = some (.int .u8 v) := OB.c3 Q1.O; have o4 : (w1).cell? ⟨w.heap.size + 1, 4, none⟩ = some (.string x) := OB.c4 Q1.O; have r0 : (w1).cell? ⟨w.heap.size + 2, 0, none⟩ = some (.string ⟨#[]⟩) := SB.c0 Q1.R; have r1 : (w1).cell? ⟨w.heap.size + 2, 1, none⟩ = some (.bool false) := SB.c1 Q1.R; have r2 : (w1).cell? ⟨w.heap.size + 2, 2, none⟩ = some (.int .i64 0) := SB.c2 Q1.R; have z0 := Blk.frozen Q1.R 0; have z1 := Blk.frozen Q1.R 1; have z2 := Blk.frozen Q1.R 2; have lx := Blk.lt Q1.X; have lo := Blk.lt Q1.O; have lr := Blk.lt Q1.R; have nx := Nat.ne_of_lt lx; have no := Nat.ne_of_lt lo; have nr := Nat.ne_of_lt lr)
  go_region
  all_goals go_wp2_with fail
  obtain ⟨fz, tz⟩ := OneW.fin (Q1) (T1) hb hg hd (Nat.le_refl _) (⟨#[]⟩) false k
  replace fz : SB ((st3 (w1) (w.heap.size + 2) (⟨#[]⟩) false k).drew) (w.heap.size + 2) (⟨#[]⟩) false k := Blk.drew fz
  replace tz := OneEnd.drew tz
  change bodyPost _ _ _ _ _ ((st3 (w1) (w.heap.size + 2) (⟨#[]⟩) false k).drew)
  generalize ((st3 (w1) (w.heap.size + 2) (⟨#[]⟩) false k).drew) = we at fz tz ⊢
  have q0 := SB.c0 fz
  have q1 := SB.c1 fz
  have q2 := SB.c2 fz
  exact bodyPost_ret (v := .tuple #[.agg #[.string ⟨#[]⟩, .bool false, .int .i64 k], .bool true]) (by simp [results, Try.results38, go_sem, q0, q1, q2]) rfl ⟨rfl, tz⟩

end Go.Proofs.Ytegoakfhadmblaa
