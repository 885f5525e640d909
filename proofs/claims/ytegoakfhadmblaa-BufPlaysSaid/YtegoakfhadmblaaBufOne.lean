/- One call of both, kind by kind. -/
import Derived.Test.YtegoakfhadmblaaBufRef
import Derived.Deep.RegionHeld3
namespace Go.Proofs.Ytegoakfhadmblaa
open Go.RowKit
set_option linter.unusedVariables false
set_option linter.unusedSimpArgs false

def LB (k p : Int) : Led := ⟨0, 0, 100, 0, k, p, 0, 0, 0⟩
theorem LB.ok {k p : Int} (h0 : 0 ≤ k) (h1 : k ≤ p) (h2 : p ≤ 100) : (LB k p).Ok := by constructor <;> simp only [LB] <;> omega
theorem lb_give {k p n : Int} (h0 : 0 ≤ n) (h : n ≤ k) : (LB k p).give n = (LB (k - n) p, true) := by
  unfold Led.give LB
  rw [if_neg (by simp; omega)]
def opC (K i n v : Int) (s : ByteArray) : Array Value := #[.int .i64 K, .int .i64 i, .int .i64 n, .int .u8 v, .string s]
def OB (w : World) (b : Nat) (K i n v : Int) (s : ByteArray) : Prop := Blk w b 69 (opC K i n v s)
section
variable {w : World} {b : Nat} {K i n v : Int} {s : ByteArray}
theorem OB.c0 (h : OB w b K i n v s) : w.cell? ⟨b, 0, none⟩ = some (.int .i64 K) := Blk.cell h 0
theorem OB.c1 (h : OB w b K i n v s) : w.cell? ⟨b, 1, none⟩ = some (.int .i64 i) := Blk.cell h 1
theorem OB.c2 (h : OB w b K i n v s) : w.cell? ⟨b, 2, none⟩ = some (.int .i64 n) := Blk.cell h 2
theorem OB.c3 (h : OB w b K i n v s) : w.cell? ⟨b, 3, none⟩ = some (.int .u8 v) := Blk.cell h 3
theorem OB.c4 (h : OB w b K i n v s) : w.cell? ⟨b, 4, none⟩ = some (.string s) := Blk.cell h 4
end
/-- the boxes of 'one', and what the buffer and the ledger are -/
structure OneW (w : World) (m b g d : Nat) (s : ByteArray) (o : Bool) (k : Int) (K i n v : Int) (x : ByteArray) (s2 : ByteArray) (o2 : Bool) (y : Led) : Prop where
  X : SB w m s o k
  O : OB w (m + 1) K i n v x
  R : SB w (m + 2) ⟨#[]⟩ false 0
  Mo : o2 = true → BufAt w b g d s2.data.toList
  Mf : o2 = false → BufOff w b g
  L : LedAt w g y
def OneEnd (w w' : World) (b g d : Nat) (s2 : ByteArray) (o2 : Bool) (y : Led) : Prop := (o2 = true → BufAt w' b g d s2.data.toList) ∧ (o2 = false → BufOff w' b g) ∧ LedAt w' g y ∧ Turn [b, g, d] w w'
section
variable {w w' w0 : World} {m b g d : Nat} {s s2 x s3 : ByteArray} {o o2 o3 : Bool} {k K i n v : Int} {y y' : Led}
theorem not3 {a b c e : Nat} (h1 : a ≠ b) (h2 : a ≠ c) (h3 : a ≠ e) : a ∉ [b, c, e] := by simp [h1, h2, h3]
theorem OneW.alloc (q : OneW w m b g d s o k K i n v x s2 o2 y) (ob : Obj) : OneW (w.alloc ob) m b g d s o k K i n v x s2 o2 y :=
  ⟨Blk.alloc q.X _, Blk.alloc q.O _, Blk.alloc q.R _, fun h => ⟨(q.Mo h).blk.alloc _, (q.Mo h).row.alloc _⟩, fun h => Blk.alloc (q.Mf h) _, Blk.alloc q.L _⟩
theorem OneW.below (q : OneW w m b g d s o k K i n v x s2 o2 y) (h : Below w.heap.size w w') : OneW w' m b g d s o k K i n v x s2 o2 y :=
  ⟨Blk.below q.X h (Blk.lt q.X), Blk.below q.O h (Blk.lt q.O), Blk.below q.R h (Blk.lt q.R), fun e => ⟨Blk.below (q.Mo e).blk h (Blk.lt (q.Mo e).blk), Blk.below (q.Mo e).row h (Blk.lt (q.Mo e).row)⟩, fun e => Blk.below (q.Mf e) h (Blk.lt (q.Mf e)), Blk.below q.L h (Blk.lt q.L)⟩
theorem OneW.drew (q : OneW w m b g d s o k K i n v x s2 o2 y) : OneW w.drew m b g d s o k K i n v x s2 o2 y := ⟨q.X, q.O, q.R, fun e => ⟨(q.Mo e).blk, (q.Mo e).row⟩, q.Mf, q.L⟩
theorem OneW.turn {S : List Nat} (q : OneW w m b g d s o k K i n v x s2 o2 y) (h : Turn S w w') (hS : ∀ z ∈ S, z < m) (Mo : o3 = true → BufAt w' b g d s3.data.toList) (Mf : o3 = false → BufOff w' b g) (L : LedAt w' g y') : OneW w' m b g d s o k K i n v x s3 o3 y' :=
  ⟨Blk.turn q.X h (fun e => by have := hS _ e; omega), Blk.turn q.O h (fun e => by have := hS _ e; omega), Blk.turn q.R h (fun e => by have := hS _ e; omega), Mo, Mf, L⟩
theorem OneW.fin (q : OneW w m b g d s o k K i n v x s2 o2 y) (t : Turn [b, g, d] w0 w) (hb : b < m) (hg : g < m) (hd : d < m) (hn : w0.heap.size ≤ m) (s' : ByteArray) (o' : Bool) (k' : Int) :
    SB (st3 w (m + 2) s' o' k') (m + 2) s' o' k' ∧ OneEnd w0 (st3 w (m + 2) s' o' k') b g d s2 o2 y :=
  ⟨SB.store q.R, fun e => ⟨Blk.st3 (q.Mo e).blk (by omega), Blk.st3 (q.Mo e).row (by omega)⟩, fun e => Blk.st3 (q.Mf e) (by omega), Blk.st3 q.L (by omega), t.st3 (by omega)⟩
theorem OneEnd.drew (h : OneEnd w w' b g d s2 o2 y) : OneEnd w w'.drew b g d s2 o2 y := ⟨fun e => ⟨(h.1 e).blk, (h.1 e).row⟩, h.2.1, h.2.2.1, h.2.2.2.drew⟩
/-- the texts of Put -/
theorem get_text (s : ByteArray) (i n : Nat) : strOf ((s.data.toList.drop i).take n) = s.extract i (i + n) := by
  rw [← strOf_of (s.extract i (i + n)), ByteArray.data_extract, Array.toList_extract, List.extract_eq_take_drop]
  congr 2
  omega
def putS (s x : ByteArray) (i : Nat) : ByteArray := s.extract 0 i ++ x ++ s.extract (i + x.size) s.size
theorem size_list (x : ByteArray) : x.size = x.data.toList.length := by rw [Array.length_toList]; rfl
theorem putS_list (s x : ByteArray) (i : Nat) : (putS s x i).data.toList = over s.data.toList i x.data.toList := by
  unfold putS over
  rw [ByteArray.data_append, ByteArray.data_append, Array.toList_append, Array.toList_append, extract_take, extract_drop, ← size_list]
theorem over_one (l : List UInt8) (i : Nat) (v : UInt8) (h : i < l.length) : over l i [v] = l.set i v := by
  have := over_set l i 0 v (by omega)
  rw [List.replicate_zero, over_nil] at this
  exact this.symm
theorem putS_size (s x : ByteArray) (i : Nat) (h : i + x.size ≤ s.size) : (putS s x i).size = s.size := by
  rw [size_list, putS_list, over_len _ _ _ (by rw [← size_list, ← size_list]; exact h), ← size_list]
end

set_option maxRecDepth 100000 in
set_option maxHeartbeats 1000000 in
theorem one_at_yes {w : World} {b g d : Nat} {s x : ByteArray} {y : Led} {k : Int} {i : Nat} {n v : Int} (hs : s.size ≤ 1000) (hx : x.size ≤ 1000) (hb : b < w.heap.size) (hg : g < w.heap.size) (hd : d < w.heap.size) (hM : BufAt w b g d s.data.toList) (hL : LedAt w g y) (hi : i < s.size) :
    Calls Try.prog 38 #[.pointer (some ⟨b, 0, none⟩), .agg #[.string s, .bool true, .int .i64 k], .agg #[.int .i64 1, .int .i64 (i : Int), .int .i64 n, .int .u8 v, .string x]] w fun e w' => e = .returned (.tuple #[.agg #[.string s, .bool true, .int .i64 k], .bool true]) ∧ OneEnd w w' b g d (s) (true) (y) := by
  have Q3 : OneW ((((w.alloc (.cells #[.string s, .bool true, .int .i64 k] 67)).alloc (.cells #[.int .i64 1, .int .i64 (i : Int), .int .i64 n, .int .u8 v, .string x] 69)).alloc (.cells #[.string ⟨#[]⟩, .bool false, .int .i64 0] 67))) w.heap.size b g d (s) (true) (k) (1) ((i : Int)) (n) (v) (x) (s) (true) (y)  := ⟨((Blk.new _ _ _).alloc _).alloc _, (Blk.new_at _ _ _ (by simp)).alloc _, Blk.new_at _ _ _ (by simp), fun _ => ⟨((hM.blk.alloc _).alloc _).alloc _, ((hM.row.alloc _).alloc _).alloc _⟩, fun h => absurd h (by decide), ((Blk.alloc hL _).alloc _).alloc _⟩
  have HQ3 := Lib.hid Q3
  have HT3 : Hid (Turn [b, g, d] w (((w.alloc (.cells #[.string s, .bool true, .int .i64 k] 67)).alloc (.cells #[.int .i64 1, .int .i64 (i : Int), .int .i64 n, .int .u8 v, .string x] 69)).alloc (.cells #[.string ⟨#[]⟩, .bool false, .int .i64 0] 67))) := Lib.hid ((((Turn.refl _ _).alloc _).alloc _).alloc _)
  have h0 : (0 : Int) ≤ (i : Int) := by omega
  have h2 : (i : Int) < (s.size : Int) := by omega
  have HB : Hid (Calls Try.prog 78 #[.pointer (some ⟨b, 0, none⟩), .int .i64 (i : Int)] (((w.alloc (.cells #[.string s, .bool true, .int .i64 k] 67)).alloc (.cells #[.int .i64 1, .int .i64 (i : Int), .int .i64 n, .int .u8 v, .string x] 69)).alloc (.cells #[.string ⟨#[]⟩, .bool false, .int .i64 0] 67)) fun e w' => e = .returned (.tuple #[.int .u8 ((s[i].toNat : Nat) : Int), .bool true]) ∧ (((w.alloc (.cells #[.string s, .bool true, .int .i64 k] 67)).alloc (.cells #[.int .i64 1, .int .i64 (i : Int), .int .i64 n, .int .u8 v, .string x] 69)).alloc (.cells #[.string ⟨#[]⟩, .bool false, .int .i64 0] 67)) = w') := Lib.hid (by have h := bufAt_yes (i := i) (Q3.Mo rfl) (by rw [← size_list]; exact hi) (by rw [← size_list]; omega); exact h)
  have HTH : Hid (∀ w : World, Calls Try.prog 79 #[.agg #[.string s, .bool true, .int .i64 k], .int .i64 (i : Int), .int .i64 1] w fun e w' => e = .returned (.bool true) ∧ Below w.heap.size w w') := Lib.hid (fun w => rthere_yes (n := 1) (by omega) (by omega))
  have HM := Lib.hid hM
  have HL := Lib.hid hL
  clear Q3 hM hL
  go_enter Try.func38, Try.ntmps38
  go_wp2_with (first
    | (go_at_call 78; refine HB.out.mono ?_; rintro e w9 ⟨rfl, rfl⟩)
    | (go_at_call 79; refine (HTH.out _).mono ?_; rintro e w1 ⟨rfl, b1⟩; have Q1 : OneW (w1) w.heap.size b g d (s) (true) (k) (1) ((i : Int)) (n) (v) (x) (s) (true) (y)  := (HQ3.out).below b1; have T1 := (HT3.out).trans (Turn.of_below b1); have x0 : (w1).cell? ⟨w.heap.size, 0, none⟩ = some (.string s) := SB.c0 Q1.X; have x1 : (w1).cell? ⟨w.heap.size, 1, none⟩ = some (.bool true) := SB.c1 Q1.X; have x2 : (w1).cell? ⟨w.heap.size, 2, none⟩ = some (.int .i64 k) := SB.c2 Q1.X; have o0 : (w1).cell? ⟨w.heap.size + 1, 0, none⟩ = some (.int .i64 1) := OB.c0 Q1.O; have o1 : (w1).cell? ⟨w.heap.size + 1, 1, none⟩ = some (.int .i64 (i : Int)) := OB.c1 Q1.O; have o2 : (w1).cell? ⟨w.heap.size + 1, 2, none⟩ = some (.int .i64 n) := OB.c2 Q1.O; have o3 : (w1).cell? ⟨w.heap.size + 1, 3, none⟩ = some (.int .u8 v) := OB.c3 Q1.O; have o4 : (w1).cell? ⟨w.heap.size + 1, 4, none⟩ = some (.string x) := OB.c4 Q1.O; have r0 : (w1).cell? ⟨w.heap.size + 2, 0, none⟩ = some (.string ⟨#[]⟩) := SB.c0 Q1.R; have r1 : (w1).cell? ⟨w.heap.size + 2, 1, none⟩ = some (.bool false) := SB.c1 Q1.R; have r2 : (w1).cell? ⟨w.heap.size + 2, 2, none⟩ = some (.int .i64 0) := SB.c2 Q1.R; have z0 := Blk.frozen Q1.R 0; have z1 := Blk.frozen Q1.R 1; have z2 := Blk.frozen Q1.R 2; have lx := Blk.lt Q1.X; have lo := Blk.lt Q1.O; have lr := Blk.lt Q1.R; have nx := Nat.ne_of_lt lx; have no := Nat.ne_of_lt lo; have nr := Nat.ne_of_lt lr))
  go_region
  all_goals go_wp2_with fail
  obtain ⟨fz, tz⟩ := OneW.fin (Q1) (T1) hb hg hd (Nat.le_refl _) (s) true k
  replace fz : SB ((st3 (w1) (w.heap.size + 2) (s) true k).drew) (w.heap.size + 2) (s) true k := Blk.drew fz
  replace tz := OneEnd.drew tz
  change bodyPost _ _ _ _ _ ((st3 (w1) (w.heap.size + 2) (s) true k).drew)
  generalize ((st3 (w1) (w.heap.size + 2) (s) true k).drew) = we at fz tz ⊢
  have q0 := SB.c0 fz
  have q1 := SB.c1 fz
  have q2 := SB.c2 fz
  exact bodyPost_ret (v := .tuple #[.agg #[.string s, .bool true, .int .i64 k], .bool true]) (by simp [results, Try.results38, go_sem, q0, q1, q2]) rfl ⟨rfl, tz⟩

set_option maxRecDepth 100000 in
set_option maxHeartbeats 1000000 in
theorem one_at_no {w : World} {b g d : Nat} {s x : ByteArray} {y : Led} {k : Int} {i n v : Int} (hs : s.size ≤ 1000) (hx : x.size ≤ 1000) (hb : b < w.heap.size) (hg : g < w.heap.size) (hd : d < w.heap.size) (hM : BufAt w b g d s.data.toList) (hL : LedAt w g y) (hfi : fitI i) (hno : ¬ ThereP s.size true i 1) :
    Calls Try.prog 38 #[.pointer (some ⟨b, 0, none⟩), .agg #[.string s, .bool true, .int .i64 k], .agg #[.int .i64 1, .int .i64 i, .int .i64 n, .int .u8 v, .string x]] w fun e w' => e = .returned (.tuple #[.agg #[.string s, .bool true, .int .i64 k], .bool true]) ∧ OneEnd w w' b g d (s) (true) (y) := by
  have Q3 : OneW ((((w.alloc (.cells #[.string s, .bool true, .int .i64 k] 67)).alloc (.cells #[.int .i64 1, .int .i64 i, .int .i64 n, .int .u8 v, .string x] 69)).alloc (.cells #[.string ⟨#[]⟩, .bool false, .int .i64 0] 67))) w.heap.size b g d (s) (true) (k) (1) (i) (n) (v) (x) (s) (true) (y)  := ⟨((Blk.new _ _ _).alloc _).alloc _, (Blk.new_at _ _ _ (by simp)).alloc _, Blk.new_at _ _ _ (by simp), fun _ => ⟨((hM.blk.alloc _).alloc _).alloc _, ((hM.row.alloc _).alloc _).alloc _⟩, fun h => absurd h (by decide), ((Blk.alloc hL _).alloc _).alloc _⟩
  have HQ3 := Lib.hid Q3
  have HT3 : Hid (Turn [b, g, d] w (((w.alloc (.cells #[.string s, .bool true, .int .i64 k] 67)).alloc (.cells #[.int .i64 1, .int .i64 i, .int .i64 n, .int .u8 v, .string x] 69)).alloc (.cells #[.string ⟨#[]⟩, .bool false, .int .i64 0] 67))) := Lib.hid ((((Turn.refl _ _).alloc _).alloc _).alloc _)
  have hfn : fitI 1 := by constructor <;> omega
  have HB : Hid (Calls Try.prog 78 #[.pointer (some ⟨b, 0, none⟩), .int .i64 i] (((w.alloc (.cells #[.string s, .bool true, .int .i64 k] 67)).alloc (.cells #[.int .i64 1, .int .i64 i, .int .i64 n, .int .u8 v, .string x] 69)).alloc (.cells #[.string ⟨#[]⟩, .bool false, .int .i64 0] 67)) fun e w' => e = .returned (.tuple #[.int .u8 0, .bool false]) ∧ (((w.alloc (.cells #[.string s, .bool true, .int .i64 k] 67)).alloc (.cells #[.int .i64 1, .int .i64 i, .int .i64 n, .int .u8 v, .string x] 69)).alloc (.cells #[.string ⟨#[]⟩, .bool false, .int .i64 0] 67)) = w') := Lib.hid (bufAt_no (bufThere_no (Q3.Mo rfl) (by have h : ¬ ((0 : Int) ≤ i ∧ (0 : Int) ≤ 1 ∧ i + 1 ≤ (s.size : Int)) := fun q => hno ⟨rfl, q⟩; rw [← size_list]; omega) (by rw [← size_list]; omega) hfi hfn))
  have HTH : Hid (∀ w : World, Calls Try.prog 79 #[.agg #[.string s, .bool true, .int .i64 k], .int .i64 i, .int .i64 1] w fun e w' => e = .returned (.bool false) ∧ Below w.heap.size w w') := Lib.hid (fun w => rthere_no (by omega) hno hfi hfn)
  have HM := Lib.hid hM
  have HL := Lib.hid hL
  clear Q3 hM hL
  go_enter Try.func38, Try.ntmps38
  go_wp2_with (first
    | (go_at_call 78; refine HB.out.mono ?_; rintro e w9 ⟨rfl, rfl⟩)
    | (go_at_call 79; refine (HTH.out _).mono ?_; rintro e w1 ⟨rfl, b1⟩; have Q1 : OneW (w1) w.heap.size b g d (s) (true) (k) (1) (i) (n) (v) (x) (s) (true) (y)  := (HQ3.out).below b1; have T1 := (HT3.out).trans (Turn.of_below b1); have x0 : (w1).cell? ⟨w.heap.size, 0, none⟩ = some (.string s) := SB.c0 Q1.X; have x1 : (w1).cell? ⟨w.heap.size, 1, none⟩ = some (.bool true) := SB.c1 Q1.X; have x2 : (w1).cell? ⟨w.heap.size, 2, none⟩ = some (.int .i64 k) := SB.c2 Q1.X; have o0 : (w1).cell? ⟨w.heap.size + 1, 0, none⟩ = some (.int .i64 1) := OB.c0 Q1.O; have o1 : (w1).cell? ⟨w.heap.size + 1, 1, none⟩ = some (.int .i64 i) := OB.c1 Q1.O; have o2 : (w1).cell? ⟨w.heap.size + 1, 2, none⟩ = some (.int .i64 n) := OB.c2 Q1.O; have o3 : (w1).cell? ⟨w.heap.size + 1, 3, none⟩ = some (.int .u8 v) := OB.c3 Q1.O; have o4 : (w1).cell? ⟨w.heap.size + 1, 4, none⟩ = some (.string x) := OB.c4 Q1.O; have r0 : (w1).cell? ⟨w.heap.size + 2, 0, none⟩ = some (.string ⟨#[]⟩) := SB.c0 Q1.R; have r1 : (w1).cell? ⟨w.heap.size + 2, 1, none⟩ = some (.bool false) := SB.c1 Q1.R; have r2 : (w1).cell? ⟨w.heap.size + 2, 2, none⟩ = some (.int .i64 0) := SB.c2 Q1.R; have z0 := Blk.frozen Q1.R 0; have z1 := Blk.frozen Q1.R 1; have z2 := Blk.frozen Q1.R 2; have lx := Blk.lt Q1.X; have lo := Blk.lt Q1.O; have lr := Blk.lt Q1.R; have nx := Nat.ne_of_lt lx; have no := Nat.ne_of_lt lo; have nr := Nat.ne_of_lt lr))
  obtain ⟨fz, tz⟩ := OneW.fin (Q1) (T1) hb hg hd (Nat.le_refl _) (s) true k
  change bodyPost _ _ _ _ _ ((st3 (w1) (w.heap.size + 2) (s) true k))
  generalize ((st3 (w1) (w.heap.size + 2) (s) true k)) = we at fz tz ⊢
  have q0 := SB.c0 fz
  have q1 := SB.c1 fz
  have q2 := SB.c2 fz
  exact bodyPost_ret (v := .tuple #[.agg #[.string s, .bool true, .int .i64 k], .bool true]) (by simp [results, Try.results38, go_sem, q0, q1, q2]) rfl ⟨rfl, tz⟩

set_option maxRecDepth 100000 in
set_option maxHeartbeats 1000000 in
theorem one_at_off {w : World} {b g d : Nat} {s x : ByteArray} {y : Led} {k : Int} {i n v : Int} (hs : s.size ≤ 1000) (hx : x.size ≤ 1000) (hb : b < w.heap.size) (hg : g < w.heap.size) (hd : d < w.heap.size) (hM : BufOff w b g) (hL : LedAt w g y) (hfi : fitI i) (hno : ¬ ThereP s.size false i 1) :
    Calls Try.prog 38 #[.pointer (some ⟨b, 0, none⟩), .agg #[.string s, .bool false, .int .i64 k], .agg #[.int .i64 1, .int .i64 i, .int .i64 n, .int .u8 v, .string x]] w fun e w' => e = .returned (.tuple #[.agg #[.string s, .bool false, .int .i64 k], .bool true]) ∧ OneEnd w w' b g d (s) (false) (y) := by
  have Q3 : OneW ((((w.alloc (.cells #[.string s, .bool false, .int .i64 k] 67)).alloc (.cells #[.int .i64 1, .int .i64 i, .int .i64 n, .int .u8 v, .string x] 69)).alloc (.cells #[.string ⟨#[]⟩, .bool false, .int .i64 0] 67))) w.heap.size b g d (s) (false) (k) (1) (i) (n) (v) (x) (s) (false) (y)  := ⟨((Blk.new _ _ _).alloc _).alloc _, (Blk.new_at _ _ _ (by simp)).alloc _, Blk.new_at _ _ _ (by simp), fun h => absurd h (by decide), fun _ => ((Blk.alloc hM _).alloc _).alloc _, ((Blk.alloc hL _).alloc _).alloc _⟩
  have HQ3 := Lib.hid Q3
  have HT3 : Hid (Turn [b, g, d] w (((w.alloc (.cells #[.string s, .bool false, .int .i64 k] 67)).alloc (.cells #[.int .i64 1, .int .i64 i, .int .i64 n, .int .u8 v, .string x] 69)).alloc (.cells #[.string ⟨#[]⟩, .bool false, .int .i64 0] 67))) := Lib.hid ((((Turn.refl _ _).alloc _).alloc _).alloc _)
  have hfn : fitI 1 := by constructor <;> omega
  have HB : Hid (Calls Try.prog 78 #[.pointer (some ⟨b, 0, none⟩), .int .i64 i] (((w.alloc (.cells #[.string s, .bool false, .int .i64 k] 67)).alloc (.cells #[.int .i64 1, .int .i64 i, .int .i64 n, .int .u8 v, .string x] 69)).alloc (.cells #[.string ⟨#[]⟩, .bool false, .int .i64 0] 67)) fun e w' => e = .returned (.tuple #[.int .u8 0, .bool false]) ∧ (((w.alloc (.cells #[.string s, .bool false, .int .i64 k] 67)).alloc (.cells #[.int .i64 1, .int .i64 i, .int .i64 n, .int .u8 v, .string x] 69)).alloc (.cells #[.string ⟨#[]⟩, .bool false, .int .i64 0] 67)) = w') := Lib.hid (bufAt_no (bufThere_off (Q3.Mf rfl)))
  have HTH : Hid (∀ w : World, Calls Try.prog 79 #[.agg #[.string s, .bool false, .int .i64 k], .int .i64 i, .int .i64 1] w fun e w' => e = .returned (.bool false) ∧ Below w.heap.size w w') := Lib.hid (fun w => rthere_no (by omega) hno hfi hfn)
  have HM := Lib.hid hM
  have HL := Lib.hid hL
  clear Q3 hM hL
  go_enter Try.func38, Try.ntmps38
  go_wp2_with (first
    | (go_at_call 78; refine HB.out.mono ?_; rintro e w9 ⟨rfl, rfl⟩)
    | (go_at_call 79; refine (HTH.out _).mono ?_; rintro e w1 ⟨rfl, b1⟩; have Q1 : OneW (w1) w.heap.size b g d (s) (false) (k) (1) (i) (n) (v) (x) (s) (false) (y)  := (HQ3.out).below b1; have T1 := (HT3.out).trans (Turn.of_below b1); have x0 : (w1).cell? ⟨w.heap.size, 0, none⟩ = some (.string s) := SB.c0 Q1.X; have x1 : (w1).cell? ⟨w.heap.size, 1, none⟩ = some (.bool false) := SB.c1 Q1.X; have x2 : (w1).cell? ⟨w.heap.size, 2, none⟩ = some (.int .i64 k) := SB.c2 Q1.X; have o0 : (w1).cell? ⟨w.heap.size + 1, 0, none⟩ = some (.int .i64 1) := OB.c0 Q1.O; have o1 : (w1).cell? ⟨w.heap.size + 1, 1, none⟩ = some (.int .i64 i) := OB.c1 Q1.O; have o2 : (w1).cell? ⟨w.heap.size + 1, 2, none⟩ = some (.int .i64 n) := OB.c2 Q1.O; have o3 : (w1).cell? ⟨w.heap.size + 1, 3, none⟩ = some (.int .u8 v) := OB.c3 Q1.O; have o4 : (w1).cell? ⟨w.heap.size + 1, 4, none⟩ = some (.string x) := OB.c4 Q1.O; have r0 : (w1).cell? ⟨w.heap.size + 2, 0, none⟩ = some (.string ⟨#[]⟩) := SB.c0 Q1.R; have r1 : (w1).cell? ⟨w.heap.size + 2, 1, none⟩ = some (.bool false) := SB.c1 Q1.R; have r2 : (w1).cell? ⟨w.heap.size + 2, 2, none⟩ = some (.int .i64 0) := SB.c2 Q1.R; have z0 := Blk.frozen Q1.R 0; have z1 := Blk.frozen Q1.R 1; have z2 := Blk.frozen Q1.R 2; have lx := Blk.lt Q1.X; have lo := Blk.lt Q1.O; have lr := Blk.lt Q1.R; have nx := Nat.ne_of_lt lx; have no := Nat.ne_of_lt lo; have nr := Nat.ne_of_lt lr))
  obtain ⟨fz, tz⟩ := OneW.fin (Q1) (T1) hb hg hd (Nat.le_refl _) (s) false k
  change bodyPost _ _ _ _ _ ((st3 (w1) (w.heap.size + 2) (s) false k))
  generalize ((st3 (w1) (w.heap.size + 2) (s) false k)) = we at fz tz ⊢
  have q0 := SB.c0 fz
  have q1 := SB.c1 fz
  have q2 := SB.c2 fz
  exact bodyPost_ret (v := .tuple #[.agg #[.string s, .bool false, .int .i64 k], .bool true]) (by simp [results, Try.results38, go_sem, q0, q1, q2]) rfl ⟨rfl, tz⟩

set_option maxRecDepth 100000 in
set_option maxHeartbeats 1000000 in
theorem one_get_yes {w : World} {b g d : Nat} {s x : ByteArray} {y : Led} {k : Int} {i n : Nat} {v : Int} (hs : s.size ≤ 1000) (hx : x.size ≤ 1000) (hb : b < w.heap.size) (hg : g < w.heap.size) (hd : d < w.heap.size) (hM : BufAt w b g d s.data.toList) (hL : LedAt w g y) (hi : i + n ≤ s.size) :
    Calls Try.prog 38 #[.pointer (some ⟨b, 0, none⟩), .agg #[.string s, .bool true, .int .i64 k], .agg #[.int .i64 5, .int .i64 (i : Int), .int .i64 (n : Int), .int .u8 v, .string x]] w fun e w' => e = .returned (.tuple #[.agg #[.string s, .bool true, .int .i64 k], .bool true]) ∧ OneEnd w w' b g d (s) (true) (y) := by
  have Q3 : OneW ((((w.alloc (.cells #[.string s, .bool true, .int .i64 k] 67)).alloc (.cells #[.int .i64 5, .int .i64 (i : Int), .int .i64 (n : Int), .int .u8 v, .string x] 69)).alloc (.cells #[.string ⟨#[]⟩, .bool false, .int .i64 0] 67))) w.heap.size b g d (s) (true) (k) (5) ((i : Int)) ((n : Int)) (v) (x) (s) (true) (y)  := ⟨((Blk.new _ _ _).alloc _).alloc _, (Blk.new_at _ _ _ (by simp)).alloc _, Blk.new_at _ _ _ (by simp), fun _ => ⟨((hM.blk.alloc _).alloc _).alloc _, ((hM.row.alloc _).alloc _).alloc _⟩, fun h => absurd h (by decide), ((Blk.alloc hL _).alloc _).alloc _⟩
  have HQ3 := Lib.hid Q3
  have HT3 : Hid (Turn [b, g, d] w (((w.alloc (.cells #[.string s, .bool true, .int .i64 k] 67)).alloc (.cells #[.int .i64 5, .int .i64 (i : Int), .int .i64 (n : Int), .int .u8 v, .string x] 69)).alloc (.cells #[.string ⟨#[]⟩, .bool false, .int .i64 0] 67))) := Lib.hid ((((Turn.refl _ _).alloc _).alloc _).alloc _)
  have h0 : (0 : Int) ≤ (i : Int) := by omega
  have h2 : (i : Int) + (n : Int) ≤ (s.size : Int) := by omega
  have h3 : (0 : Int) ≤ (i : Int) + (n : Int) := by omega
  have h4 : (i : Int) ≤ (i : Int) + (n : Int) := by omega
  have hwr := IntWalk.i64_in ((i : Int) + (n : Int)) (by omega)
  have HB : Hid (Calls Try.prog 75 #[.pointer (some ⟨b, 0, none⟩), .int .i64 (i : Int), .int .i64 (n : Int)] (((w.alloc (.cells #[.string s, .bool true, .int .i64 k] 67)).alloc (.cells #[.int .i64 5, .int .i64 (i : Int), .int .i64 (n : Int), .int .u8 v, .string x] 69)).alloc (.cells #[.string ⟨#[]⟩, .bool false, .int .i64 0] 67)) fun e w' => e = .returned (.tuple #[.string (s.extract i (i + n)), .bool true]) ∧ (((w.alloc (.cells #[.string s, .bool true, .int .i64 k] 67)).alloc (.cells #[.int .i64 5, .int .i64 (i : Int), .int .i64 (n : Int), .int .u8 v, .string x] 69)).alloc (.cells #[.string ⟨#[]⟩, .bool false, .int .i64 0] 67)) = w') := Lib.hid (by have h := bufGet_yes (i := i) (n := n) (Q3.Mo rfl) (by rw [← size_list]; exact hi) (by rw [← size_list]; omega); rw [get_text] at h; exact h)
  have HTH : Hid (∀ w : World, Calls Try.prog 79 #[.agg #[.string s, .bool true, .int .i64 k], .int .i64 (i : Int), .int .i64 (n : Int)] w fun e w' => e = .returned (.bool true) ∧ Below w.heap.size w w') := Lib.hid (fun w => rthere_yes (by omega) hi)
  have HM := Lib.hid hM
  have HL := Lib.hid hL
  clear Q3 hM hL
  go_enter Try.func38, Try.ntmps38
  go_wp2_with (first
    | (go_at_call 75; refine HB.out.mono ?_; rintro e w9 ⟨rfl, rfl⟩)
    | (go_at_call 79; refine (HTH.out _).mono ?_; rintro e w1 ⟨rfl, b1⟩; have Q1 : OneW (w1) w.heap.size b g d (s) (true) (k) (5) ((i : Int)) ((n : Int)) (v) (x) (s) (true) (y)  := (HQ3.out).below b1; have T1 := (HT3.out).trans (Turn.of_below b1); have x0 : (w1).cell? ⟨w.heap.size, 0, none⟩ = some (.string s) := SB.c0 Q1.X; have x1 : (w1).cell? ⟨w.heap.size, 1, none⟩ = some (.bool true) := SB.c1 Q1.X; have x2 : (w1).cell? ⟨w.heap.size, 2, none⟩ = some (.int .i64 k) := SB.c2 Q1.X; have o0 : (w1).cell? ⟨w.heap.size + 1, 0, none⟩ = some (.int .i64 5) := OB.c0 Q1.O; have o1 : (w1).cell? ⟨w.heap.size + 1, 1, none⟩ = some (.int .i64 (i : Int)) := OB.c1 Q1.O; have o2 : (w1).cell? ⟨w.heap.size + 1, 2, none⟩ = some (.int .i64 (n : Int)) := OB.c2 Q1.O; have o3 : (w1).cell? ⟨w.heap.size + 1, 3, none⟩ = some (.int .u8 v) := OB.c3 Q1.O; have o4 : (w1).cell? ⟨w.heap.size + 1, 4, none⟩ = some (.string x) := OB.c4 Q1.O; have r0 : (w1).cell? ⟨w.heap.size + 2, 0, none⟩ = some (.string ⟨#[]⟩) := SB.c0 Q1.R; have r1 : (w1).cell? ⟨w.heap.size + 2, 1, none⟩ = some (.bool false) := SB.c1 Q1.R; have r2 : (w1).cell? ⟨w.heap.size + 2, 2, none⟩ = some (.int .i64 0) := SB.c2 Q1.R; have z0 := Blk.frozen Q1.R 0; have z1 := Blk.frozen Q1.R 1; have z2 := Blk.frozen Q1.R 2; have lx := Blk.lt Q1.X; have lo := Blk.lt Q1.O; have lr := Blk.lt Q1.R; have nx := Nat.ne_of_lt lx; have no := Nat.ne_of_lt lo; have nr := Nat.ne_of_lt lr))
  go_region
  all_goals go_wp2_with fail
  obtain ⟨fz, tz⟩ := OneW.fin (Q1) (T1) hb hg hd (Nat.le_refl _) (s) true k
  replace fz : SB ((st3 (w1) (w.heap.size + 2) (s) true k).drew) (w.heap.size + 2) (s) true k := Blk.drew fz
  replace tz := OneEnd.drew tz
  change bodyPost _ _ _ _ _ ((st3 (w1) (w.heap.size + 2) (s) true k).drew)
  generalize ((st3 (w1) (w.heap.size + 2) (s) true k).drew) = we at fz tz ⊢
  have q0 := SB.c0 fz
  have q1 := SB.c1 fz
  have q2 := SB.c2 fz
  exact bodyPost_ret (v := .tuple #[.agg #[.string s, .bool true, .int .i64 k], .bool true]) (by simp [results, Try.results38, go_sem, q0, q1, q2]) rfl ⟨rfl, tz⟩

set_option maxRecDepth 100000 in
set_option maxHeartbeats 1000000 in
theorem one_get_no {w : World} {b g d : Nat} {s x : ByteArray} {y : Led} {k : Int} {i n v : Int} (hs : s.size ≤ 1000) (hx : x.size ≤ 1000) (hb : b < w.heap.size) (hg : g < w.heap.size) (hd : d < w.heap.size) (hM : BufAt w b g d s.data.toList) (hL : LedAt w g y) (hfi : fitI i) (hfn : fitI n) (hno : ¬ ThereP s.size true i n) :
    Calls Try.prog 38 #[.pointer (some ⟨b, 0, none⟩), .agg #[.string s, .bool true, .int .i64 k], .agg #[.int .i64 5, .int .i64 i, .int .i64 n, .int .u8 v, .string x]] w fun e w' => e = .returned (.tuple #[.agg #[.string s, .bool true, .int .i64 k], .bool true]) ∧ OneEnd w w' b g d (s) (true) (y) := by
  have Q3 : OneW ((((w.alloc (.cells #[.string s, .bool true, .int .i64 k] 67)).alloc (.cells #[.int .i64 5, .int .i64 i, .int .i64 n, .int .u8 v, .string x] 69)).alloc (.cells #[.string ⟨#[]⟩, .bool false, .int .i64 0] 67))) w.heap.size b g d (s) (true) (k) (5) (i) (n) (v) (x) (s) (true) (y)  := ⟨((Blk.new _ _ _).alloc _).alloc _, (Blk.new_at _ _ _ (by simp)).alloc _, Blk.new_at _ _ _ (by simp), fun _ => ⟨((hM.blk.alloc _).alloc _).alloc _, ((hM.row.alloc _).alloc _).alloc _⟩, fun h => absurd h (by decide), ((Blk.alloc hL _).alloc _).alloc _⟩
  have HQ3 := Lib.hid Q3
  have HT3 : Hid (Turn [b, g, d] w (((w.alloc (.cells #[.string s, .bool true, .int .i64 k] 67)).alloc (.cells #[.int .i64 5, .int .i64 i, .int .i64 n, .int .u8 v, .string x] 69)).alloc (.cells #[.string ⟨#[]⟩, .bool false, .int .i64 0] 67))) := Lib.hid ((((Turn.refl _ _).alloc _).alloc _).alloc _)
  have HB : Hid (Calls Try.prog 75 #[.pointer (some ⟨b, 0, none⟩), .int .i64 i, .int .i64 n] (((w.alloc (.cells #[.string s, .bool true, .int .i64 k] 67)).alloc (.cells #[.int .i64 5, .int .i64 i, .int .i64 n, .int .u8 v, .string x] 69)).alloc (.cells #[.string ⟨#[]⟩, .bool false, .int .i64 0] 67)) fun e w' => e = .returned (.tuple #[.string ⟨#[]⟩, .bool false]) ∧ (((w.alloc (.cells #[.string s, .bool true, .int .i64 k] 67)).alloc (.cells #[.int .i64 5, .int .i64 i, .int .i64 n, .int .u8 v, .string x] 69)).alloc (.cells #[.string ⟨#[]⟩, .bool false, .int .i64 0] 67)) = w') := Lib.hid (bufGet_no (bufThere_no (Q3.Mo rfl) (by have h : ¬ ((0 : Int) ≤ i ∧ (0 : Int) ≤ n ∧ i + n ≤ (s.size : Int)) := fun q => hno ⟨rfl, q⟩; rw [← size_list]; omega) (by rw [← size_list]; omega) hfi hfn))
  have HTH : Hid (∀ w : World, Calls Try.prog 79 #[.agg #[.string s, .bool true, .int .i64 k], .int .i64 i, .int .i64 n] w fun e w' => e = .returned (.bool false) ∧ Below w.heap.size w w') := Lib.hid (fun w => rthere_no (by omega) hno hfi hfn)
  have HM := Lib.hid hM
  have HL := Lib.hid hL
  clear Q3 hM hL
  go_enter Try.func38, Try.ntmps38
  go_wp2_with (first
    | (go_at_call 75; refine HB.out.mono ?_; rintro e w9 ⟨rfl, rfl⟩)
    | (go_at_call 79; refine (HTH.out _).mono ?_; rintro e w1 ⟨rfl, b1⟩; have Q1 : OneW (w1) w.heap.size b g d (s) (true) (k) (5) (i) (n) (v) (x) (s) (true) (y)  := (HQ3.out).below b1; have T1 := (HT3.out).trans (Turn.of_below b1); have x0 : (w1).cell? ⟨w.heap.size, 0, none⟩ = some (.string s) := SB.c0 Q1.X; have x1 : (w1).cell? ⟨w.heap.size, 1, none⟩ = some (.bool true) := SB.c1 Q1.X; have x2 : (w1).cell? ⟨w.heap.size, 2, none⟩ = some (.int .i64 k) := SB.c2 Q1.X; have o0 : (w1).cell? ⟨w.heap.size + 1, 0, none⟩ = some (.int .i64 5) := OB.c0 Q1.O; have o1 : (w1).cell? ⟨w.heap.size + 1, 1, none⟩ = some (.int .i64 i) := OB.c1 Q1.O; have o2 : (w1).cell? ⟨w.heap.size + 1, 2, none⟩ = some (.int .i64 n) := OB.c2 Q1.O; have o3 : (w1).cell? ⟨w.heap.size + 1, 3, none⟩ = some (.int .u8 v) := OB.c3 Q1.O; have o4 : (w1).cell? ⟨w.heap.size + 1, 4, none⟩ = some (.string x) := OB.c4 Q1.O; have r0 : (w1).cell? ⟨w.heap.size + 2, 0, none⟩ = some (.string ⟨#[]⟩) := SB.c0 Q1.R; have r1 : (w1).cell? ⟨w.heap.size + 2, 1, none⟩ = some (.bool false) := SB.c1 Q1.R; have r2 : (w1).cell? ⟨w.heap.size + 2, 2, none⟩ = some (.int .i64 0) := SB.c2 Q1.R; have z0 := Blk.frozen Q1.R 0; have z1 := Blk.frozen Q1.R 1; have z2 := Blk.frozen Q1.R 2; have lx := Blk.lt Q1.X; have lo := Blk.lt Q1.O; have lr := Blk.lt Q1.R; have nx := Nat.ne_of_lt lx; have no := Nat.ne_of_lt lo; have nr := Nat.ne_of_lt lr))
  obtain ⟨fz, tz⟩ := OneW.fin (Q1) (T1) hb hg hd (Nat.le_refl _) (s) true k
  change bodyPost _ _ _ _ _ ((st3 (w1) (w.heap.size + 2) (s) true k))
  generalize ((st3 (w1) (w.heap.size + 2) (s) true k)) = we at fz tz ⊢
  have q0 := SB.c0 fz
  have q1 := SB.c1 fz
  have q2 := SB.c2 fz
  exact bodyPost_ret (v := .tuple #[.agg #[.string s, .bool true, .int .i64 k], .bool true]) (by simp [results, Try.results38, go_sem, q0, q1, q2]) rfl ⟨rfl, tz⟩

set_option maxRecDepth 100000 in
set_option maxHeartbeats 1000000 in
theorem one_get_off {w : World} {b g d : Nat} {s x : ByteArray} {y : Led} {k : Int} {i n v : Int} (hs : s.size ≤ 1000) (hx : x.size ≤ 1000) (hb : b < w.heap.size) (hg : g < w.heap.size) (hd : d < w.heap.size) (hM : BufOff w b g) (hL : LedAt w g y) (hfi : fitI i) (hfn : fitI n) (hno : ¬ ThereP s.size false i n) :
    Calls Try.prog 38 #[.pointer (some ⟨b, 0, none⟩), .agg #[.string s, .bool false, .int .i64 k], .agg #[.int .i64 5, .int .i64 i, .int .i64 n, .int .u8 v, .string x]] w fun e w' => e = .returned (.tuple #[.agg #[.string s, .bool false, .int .i64 k], .bool true]) ∧ OneEnd w w' b g d (s) (false) (y) := by
  have Q3 : OneW ((((w.alloc (.cells #[.string s, .bool false, .int .i64 k] 67)).alloc (.cells #[.int .i64 5, .int .i64 i, .int .i64 n, .int .u8 v, .string x] 69)).alloc (.cells #[.string ⟨#[]⟩, .bool false, .int .i64 0] 67))) w.heap.size b g d (s) (false) (k) (5) (i) (n) (v) (x) (s) (false) (y)  := ⟨((Blk.new _ _ _).alloc _).alloc _, (Blk.new_at _ _ _ (by simp)).alloc _, Blk.new_at _ _ _ (by simp), fun h => absurd h (by decide), fun _ => ((Blk.alloc hM _).alloc _).alloc _, ((Blk.alloc hL _).alloc _).alloc _⟩
  have HQ3 := Lib.hid Q3
  have HT3 : Hid (Turn [b, g, d] w (((w.alloc (.cells #[.string s, .bool false, .int .i64 k] 67)).alloc (.cells #[.int .i64 5, .int .i64 i, .int .i64 n, .int .u8 v, .string x] 69)).alloc (.cells #[.string ⟨#[]⟩, .bool false, .int .i64 0] 67))) := Lib.hid ((((Turn.refl _ _).alloc _).alloc _).alloc _)
  have HB : Hid (Calls Try.prog 75 #[.pointer (some ⟨b, 0, none⟩), .int .i64 i, .int .i64 n] (((w.alloc (.cells #[.string s, .bool false, .int .i64 k] 67)).alloc (.cells #[.int .i64 5, .int .i64 i, .int .i64 n, .int .u8 v, .string x] 69)).alloc (.cells #[.string ⟨#[]⟩, .bool false, .int .i64 0] 67)) fun e w' => e = .returned (.tuple #[.string ⟨#[]⟩, .bool false]) ∧ (((w.alloc (.cells #[.string s, .bool false, .int .i64 k] 67)).alloc (.cells #[.int .i64 5, .int .i64 i, .int .i64 n, .int .u8 v, .string x] 69)).alloc (.cells #[.string ⟨#[]⟩, .bool false, .int .i64 0] 67)) = w') := Lib.hid (bufGet_no (bufThere_off (Q3.Mf rfl)))
  have HTH : Hid (∀ w : World, Calls Try.prog 79 #[.agg #[.string s, .bool false, .int .i64 k], .int .i64 i, .int .i64 n] w fun e w' => e = .returned (.bool false) ∧ Below w.heap.size w w') := Lib.hid (fun w => rthere_no (by omega) hno hfi hfn)
  have HM := Lib.hid hM
  have HL := Lib.hid hL
  clear Q3 hM hL
  go_enter Try.func38, Try.ntmps38
  go_wp2_with (first
    | (go_at_call 75; refine HB.out.mono ?_; rintro e w9 ⟨rfl, rfl⟩)
    | (go_at_call 79; refine (HTH.out _).mono ?_; rintro e w1 ⟨rfl, b1⟩; have Q1 : OneW (w1) w.heap.size b g d (s) (false) (k) (5) (i) (n) (v) (x) (s) (false) (y)  := (HQ3.out).below b1; have T1 := (HT3.out).trans (Turn.of_below b1); have x0 : (w1).cell? ⟨w.heap.size, 0, none⟩ = some (.string s) := SB.c0 Q1.X; have x1 : (w1).cell? ⟨w.heap.size, 1, none⟩ = some (.bool false) := SB.c1 Q1.X; have x2 : (w1).cell? ⟨w.heap.size, 2, none⟩ = some (.int .i64 k) := SB.c2 Q1.X; have o0 : (w1).cell? ⟨w.heap.size + 1, 0, none⟩ = some (.int .i64 5) := OB.c0 Q1.O; have o1 : (w1).cell? ⟨w.heap.size + 1, 1, none⟩ = some (.int .i64 i) := OB.c1 Q1.O; have o2 : (w1).cell? ⟨w.heap.size + 1, 2, none⟩ = some (.int .i64 n) := OB.c2 Q1.O; have o3 : (w1).cell? ⟨w.heap.size + 1, 3, none⟩ = some (.int .u8 v) := OB.c3 Q1.O; have o4 : (w1).cell? ⟨w.heap.size + 1, 4, none⟩ = some (.string x) := OB.c4 Q1.O; have r0 : (w1).cell? ⟨w.heap.size + 2, 0, none⟩ = some (.string ⟨#[]⟩) := SB.c0 Q1.R; have r1 : (w1).cell? ⟨w.heap.size + 2, 1, none⟩ = some (.bool false) := SB.c1 Q1.R; have r2 : (w1).cell? ⟨w.heap.size + 2, 2, none⟩ = some (.int .i64 0) := SB.c2 Q1.R; have z0 := Blk.frozen Q1.R 0; have z1 := Blk.frozen Q1.R 1; have z2 := Blk.frozen Q1.R 2; have lx := Blk.lt Q1.X; have lo := Blk.lt Q1.O; have lr := Blk.lt Q1.R; have nx := Nat.ne_of_lt lx; have no := Nat.ne_of_lt lo; have nr := Nat.ne_of_lt lr))
  obtain ⟨fz, tz⟩ := OneW.fin (Q1) (T1) hb hg hd (Nat.le_refl _) (s) false k
  change bodyPost _ _ _ _ _ ((st3 (w1) (w.heap.size + 2) (s) false k))
  generalize ((st3 (w1) (w.heap.size + 2) (s) false k)) = we at fz tz ⊢
  have q0 := SB.c0 fz
  have q1 := SB.c1 fz
  have q2 := SB.c2 fz
  exact bodyPost_ret (v := .tuple #[.agg #[.string s, .bool false, .int .i64 k], .bool true]) (by simp [results, Try.results38, go_sem, q0, q1, q2]) rfl ⟨rfl, tz⟩

set_option maxRecDepth 100000 in
set_option maxHeartbeats 1000000 in
theorem one_else_true {w : World} {b g d : Nat} {s x : ByteArray} {y : Led} {k : Int} {K i n v : Int} (hs : s.size ≤ 1000) (hx : x.size ≤ 1000) (hb : b < w.heap.size) (hg : g < w.heap.size) (hd : d < w.heap.size) (hM : BufAt w b g d s.data.toList) (hL : LedAt w g y) (hk : K < 1 ∨ 7 < K) :
    Calls Try.prog 38 #[.pointer (some ⟨b, 0, none⟩), .agg #[.string s, .bool true, .int .i64 k], .agg #[.int .i64 K, .int .i64 i, .int .i64 n, .int .u8 v, .string x]] w fun e w' => e = .returned (.tuple #[.agg #[.string s, .bool true, .int .i64 k], .bool true]) ∧ OneEnd w w' b g d (s) (true) (y) := by
  have Q3 : OneW ((((w.alloc (.cells #[.string s, .bool true, .int .i64 k] 67)).alloc (.cells #[.int .i64 K, .int .i64 i, .int .i64 n, .int .u8 v, .string x] 69)).alloc (.cells #[.string ⟨#[]⟩, .bool false, .int .i64 0] 67))) w.heap.size b g d (s) (true) (k) (K) (i) (n) (v) (x) (s) (true) (y)  := ⟨((Blk.new _ _ _).alloc _).alloc _, (Blk.new_at _ _ _ (by simp)).alloc _, Blk.new_at _ _ _ (by simp), fun _ => ⟨((hM.blk.alloc _).alloc _).alloc _, ((hM.row.alloc _).alloc _).alloc _⟩, fun h => absurd h (by decide), ((Blk.alloc hL _).alloc _).alloc _⟩
  have HQ3 := Lib.hid Q3
  have HT3 : Hid (Turn [b, g, d] w (((w.alloc (.cells #[.string s, .bool true, .int .i64 k] 67)).alloc (.cells #[.int .i64 K, .int .i64 i, .int .i64 n, .int .u8 v, .string x] 69)).alloc (.cells #[.string ⟨#[]⟩, .bool false, .int .i64 0] 67))) := Lib.hid ((((Turn.refl _ _).alloc _).alloc _).alloc _)
  have e1 : ¬ K = 1 := by omega
  have e2 : ¬ K = 2 := by omega
  have e3 : ¬ K = 3 := by omega
  have e4 : ¬ K = 4 := by omega
  have e5 : ¬ K = 5 := by omega
  have e6 : ¬ K = 6 := by omega
  have e7 : ¬ K = 7 := by omega
  have u1 : (K == 1) = false := beq_eq_false_iff_ne.2 (by omega)
  have u2 : (K == 2) = false := beq_eq_false_iff_ne.2 (by omega)
  have u3 : (K == 3) = false := beq_eq_false_iff_ne.2 (by omega)
  have u4 : (K == 4) = false := beq_eq_false_iff_ne.2 (by omega)
  have u5 : (K == 5) = false := beq_eq_false_iff_ne.2 (by omega)
  have u6 : (K == 6) = false := beq_eq_false_iff_ne.2 (by omega)
  have u7 : (K == 7) = false := beq_eq_false_iff_ne.2 (by omega)
  have HM := Lib.hid hM
  have HL := Lib.hid hL
  clear Q3 hM hL
  go_enter Try.func38, Try.ntmps38
  go_wp2_with fail
  exact bodyPost_ret (v := .tuple #[.agg #[.string s, .bool true, .int .i64 k], .bool true]) (by simp [results, Try.results38, go_sem]) rfl ⟨rfl, fun _ => ⟨((HM.out.blk.alloc _).alloc _).alloc _, ((HM.out.row.alloc _).alloc _).alloc _⟩, fun h => absurd h (by decide), ((Blk.alloc HL.out _).alloc _).alloc _, (((Turn.refl _ _).alloc _).alloc _).alloc _⟩

set_option maxRecDepth 100000 in
set_option maxHeartbeats 1000000 in
theorem one_else_false {w : World} {b g d : Nat} {s x : ByteArray} {y : Led} {k : Int} {K i n v : Int} (hs : s.size ≤ 1000) (hx : x.size ≤ 1000) (hb : b < w.heap.size) (hg : g < w.heap.size) (hd : d < w.heap.size) (hM : BufOff w b g) (hL : LedAt w g y) (hk : K < 1 ∨ 7 < K) :
    Calls Try.prog 38 #[.pointer (some ⟨b, 0, none⟩), .agg #[.string s, .bool false, .int .i64 k], .agg #[.int .i64 K, .int .i64 i, .int .i64 n, .int .u8 v, .string x]] w fun e w' => e = .returned (.tuple #[.agg #[.string s, .bool false, .int .i64 k], .bool true]) ∧ OneEnd w w' b g d (s) (false) (y) := by
  have Q3 : OneW ((((w.alloc (.cells #[.string s, .bool false, .int .i64 k] 67)).alloc (.cells #[.int .i64 K, .int .i64 i, .int .i64 n, .int .u8 v, .string x] 69)).alloc (.cells #[.string ⟨#[]⟩, .bool false, .int .i64 0] 67))) w.heap.size b g d (s) (false) (k) (K) (i) (n) (v) (x) (s) (false) (y)  := ⟨((Blk.new _ _ _).alloc _).alloc _, (Blk.new_at _ _ _ (by simp)).alloc _, Blk.new_at _ _ _ (by simp), fun h => absurd h (by decide), fun _ => ((Blk.alloc hM _).alloc _).alloc _, ((Blk.alloc hL _).alloc _).alloc _⟩
  have HQ3 := Lib.hid Q3
  have HT3 : Hid (Turn [b, g, d] w (((w.alloc (.cells #[.string s, .bool false, .int .i64 k] 67)).alloc (.cells #[.int .i64 K, .int .i64 i, .int .i64 n, .int .u8 v, .string x] 69)).alloc (.cells #[.string ⟨#[]⟩, .bool false, .int .i64 0] 67))) := Lib.hid ((((Turn.refl _ _).alloc _).alloc _).alloc _)
  have e1 : ¬ K = 1 := by omega
  have e2 : ¬ K = 2 := by omega
  have e3 : ¬ K = 3 := by omega
  have e4 : ¬ K = 4 := by omega
  have e5 : ¬ K = 5 := by omega
  have e6 : ¬ K = 6 := by omega
  have e7 : ¬ K = 7 := by omega
  have u1 : (K == 1) = false := beq_eq_false_iff_ne.2 (by omega)
  have u2 : (K == 2) = false := beq_eq_false_iff_ne.2 (by omega)
  have u3 : (K == 3) = false := beq_eq_false_iff_ne.2 (by omega)
  have u4 : (K == 4) = false := beq_eq_false_iff_ne.2 (by omega)
  have u5 : (K == 5) = false := beq_eq_false_iff_ne.2 (by omega)
  have u6 : (K == 6) = false := beq_eq_false_iff_ne.2 (by omega)
  have u7 : (K == 7) = false := beq_eq_false_iff_ne.2 (by omega)
  have HM := Lib.hid hM
  have HL := Lib.hid hL
  clear Q3 hM hL
  go_enter Try.func38, Try.ntmps38
  go_wp2_with fail
  exact bodyPost_ret (v := .tuple #[.agg #[.string s, .bool false, .int .i64 k], .bool true]) (by simp [results, Try.results38, go_sem]) rfl ⟨rfl, fun h => absurd h (by decide), fun _ => ((Blk.alloc HM.out _).alloc _).alloc _, ((Blk.alloc HL.out _).alloc _).alloc _, (((Turn.refl _ _).alloc _).alloc _).alloc _⟩

end Go.Proofs.Ytegoakfhadmblaa
