/- The reference's There, Put, Free of chapter 4. -/
import Derived.Test.YtegoakfhadmblaaBufOps
namespace Go.Proofs.Ytegoakfhadmblaa
open Go.RowKit
set_option linter.unusedVariables false
set_option linter.unusedSimpArgs false

def stC (s : ByteArray) (o : Bool) (k : Int) : Array Value := #[.string s, .bool o, .int .i64 k]
def SB (w : World) (b : Nat) (s : ByteArray) (o : Bool) (k : Int) : Prop := Blk w b 67 (stC s o k)
theorem SB.c0 {w : World} {b : Nat} {s : ByteArray} {o : Bool} {k : Int} (h : SB w b s o k) : w.cell? ⟨b, 0, none⟩ = some (.string s) := Blk.cell h 0
theorem SB.c1 {w : World} {b : Nat} {s : ByteArray} {o : Bool} {k : Int} (h : SB w b s o k) : w.cell? ⟨b, 1, none⟩ = some (.bool o) := Blk.cell h 1
theorem SB.c2 {w : World} {b : Nat} {s : ByteArray} {o : Bool} {k : Int} (h : SB w b s o k) : w.cell? ⟨b, 2, none⟩ = some (.int .i64 k) := Blk.cell h 2
def st3 (w : World) (b : Nat) (s : ByteArray) (o : Bool) (k : Int) : World := ((w.setCell ⟨b, 0, none⟩ (.string s)).setCell ⟨b, 1, none⟩ (.bool o)).setCell ⟨b, 2, none⟩ (.int .i64 k)
theorem SB.store {w : World} {b : Nat} {s s' : ByteArray} {o o' : Bool} {k k' : Int} (h : SB w b s o k) : SB (st3 w b s' o' k') b s' o' k' := (((Blk.set_ h 0 _).set_ 1 _).set_ 2 _).eq_ (by simp [stC])
theorem Below.st3 {B : Nat} {a w : World} {b : Nat} {s : ByteArray} {o : Bool} {k : Int} (h : Below B a w) (hb : B ≤ b) : Below B a (st3 w b s o k) := below_set (below_set (below_set h hb) hb) hb
theorem Turn.st3 {a w : World} {S : List Nat} {b : Nat} {s : ByteArray} {o : Bool} {k : Int} (h : Turn S a w) (hb : a.heap.size ≤ b) : Turn S a (st3 w b s o k) := ((h.set_ 0 _ (.inr hb)).set_ 1 _ (.inr hb)).set_ 2 _ (.inr hb)
theorem Blk.st3 {w : World} {g b : Nat} {t : TypeId} {cs : Array Value} {s : ByteArray} {o : Bool} {k : Int} (h : Blk w g t cs) (hb : g ≠ b) : Blk (st3 w b s o k) g t cs := ((Blk.far h (p := ⟨b, 0, none⟩) hb _).far (p := ⟨b, 1, none⟩) hb _).far (p := ⟨b, 2, none⟩) hb _
def fitI (z : Int) : Prop := -9223372036854775808 ≤ z ∧ z ≤ 9223372036854775807
/-- do so many bytes stand from a place on? -/
def ThereP (n0 : Nat) (o : Bool) (i n : Int) : Prop := o = true ∧ 0 ≤ i ∧ 0 ≤ n ∧ i + n ≤ (n0 : Int)

set_option maxRecDepth 100000 in
set_option maxHeartbeats 1000000 in
theorem rthere_yes {s : ByteArray} {k : Int} {i n : Nat} {w : World} (hs : s.size ≤ 1000000) (h : i + n ≤ s.size) : Calls Try.prog 79 #[.agg #[.string s, .bool true, .int .i64 k], .int .i64 (i : Int), .int .i64 (n : Int)] w fun e w' => e = .returned (.bool true) ∧ Below w.heap.size w w' := by
  have hi := IntWalk.i64_in ((s.size : Int) - i) (by omega)
  have h0 : (0 : Int) ≤ (i : Int) := by omega
  have h1 : (0 : Int) ≤ (n : Int) := by omega
  have h2 : (i : Int) ≤ (s.size : Int) := by omega
  have h3 : (n : Int) ≤ (s.size : Int) - i := by omega
  clear h
  go_enter Try.func79, Try.ntmps79
  go_wp2_with fail
  go_ret
  exact ⟨ret1 (vbool (by first | rfl | (simp; done) | (simp; omega))), (Below.refl _ _).alloc (Nat.le_refl _) _⟩

set_option maxRecDepth 100000 in
set_option maxHeartbeats 1000000 in
theorem rthere_no {s : ByteArray} {o : Bool} {k i n : Int} {w : World} (hs : s.size ≤ 1000000) (h : ¬ ThereP s.size o i n) (fi : fitI i) (fn : fitI n) : Calls Try.prog 79 #[.agg #[.string s, .bool o, .int .i64 k], .int .i64 i, .int .i64 n] w fun e w' => e = .returned (.bool false) ∧ Below w.heap.size w w' := by
  unfold ThereP at h
  obtain ⟨fi0, fi1⟩ := fi
  obtain ⟨fn0, fn1⟩ := fn
  cases o
  · clear h
    go_enter Try.func79, Try.ntmps79
    go_wp2_with fail
    go_ret
    exact ⟨ret1 (vbool (by first | rfl | (simp; done) | (simp; omega))), (Below.refl _ _).alloc (Nat.le_refl _) _⟩
  · by_cases h0 : 0 ≤ i
    · by_cases h1 : 0 ≤ n
      · by_cases h2 : i ≤ (s.size : Int)
        · have hi := IntWalk.i64_in ((s.size : Int) - i) (by omega)
          have h3 : ¬ n ≤ (s.size : Int) - i := fun h4 => h ⟨rfl, h0, h1, by omega⟩
          clear h
          go_enter Try.func79, Try.ntmps79
          go_wp2_with fail
          go_ret
          exact ⟨ret1 (vbool (by first | rfl | (simp; done) | (simp; omega))), (Below.refl _ _).alloc (Nat.le_refl _) _⟩
        · clear h
          go_enter Try.func79, Try.ntmps79
          go_wp2_with fail
          go_ret
          exact ⟨ret1 (vbool (by first | rfl | (simp; done) | (simp; omega))), (Below.refl _ _).alloc (Nat.le_refl _) _⟩
      · clear h
        go_enter Try.func79, Try.ntmps79
        go_wp2_with fail
        go_ret
        exact ⟨ret1 (vbool (by first | rfl | (simp; done) | (simp; omega))), (Below.refl _ _).alloc (Nat.le_refl _) _⟩
    · clear h
      go_enter Try.func79, Try.ntmps79
      go_wp2_with fail
      go_ret
      exact ⟨ret1 (vbool (by first | rfl | (simp; done) | (simp; omega))), (Below.refl _ _).alloc (Nat.le_refl _) _⟩

set_option maxRecDepth 100000 in
set_option maxHeartbeats 1000000 in
theorem rput_no {s x : ByteArray} {o : Bool} {k i : Int} {w : World} (hs : s.size ≤ 1000000) (hx : x.size ≤ 1000000) (h : ¬ ThereP s.size o i (x.size : Int)) (fi : fitI i) : Calls Try.prog 80 #[.agg #[.string s, .bool o, .int .i64 k], .int .i64 i, .string x] w fun e w' => e = .returned (.tuple #[.agg #[.string s, .bool o, .int .i64 k], .bool false]) ∧ Below w.heap.size w w' := by
  have X0 : SB ((w.alloc (.cells #[.string s, .bool o, .int .i64 k] 67)).alloc (.cells #[.string ⟨#[]⟩, .bool false, .int .i64 0] 67)) w.heap.size s o k := (Blk.new _ _ _).alloc _
  have R0 : SB ((w.alloc (.cells #[.string s, .bool o, .int .i64 k] 67)).alloc (.cells #[.string ⟨#[]⟩, .bool false, .int .i64 0] 67)) (w.heap.size + 1) ⟨#[]⟩ false 0 := Blk.new_at _ _ _ (by simp)
  have B0 : Below w.heap.size w ((w.alloc (.cells #[.string s, .bool o, .int .i64 k] 67)).alloc (.cells #[.string ⟨#[]⟩, .bool false, .int .i64 0] 67)) := ((Below.refl _ _).alloc (Nat.le_refl _) _).alloc (by simp) _
  have HT := Lib.hid (fun w => rthere_no (w := w) (k := k) hs h fi (by constructor <;> omega))
  clear h
  go_enter Try.func80, Try.ntmps80
  go_wp2_with (go_at_call 79; refine (HT.out _).mono ?_; rintro e w1 ⟨rfl, b1⟩; have X1 : SB w1 w.heap.size s o k := Blk.below X0 b1 (Blk.lt X0); have R1 : SB w1 (w.heap.size + 1) ⟨#[]⟩ false 0 := Blk.below R0 b1 (Blk.lt R0); have B1 := below_next B0 b1; have x0 : (w1).cell? ⟨w.heap.size, 0, none⟩ = some (.string s) := SB.c0 X1; have x1 : (w1).cell? ⟨w.heap.size, 1, none⟩ = some (.bool o) := SB.c1 X1; have x2 : (w1).cell? ⟨w.heap.size, 2, none⟩ = some (.int .i64 k) := SB.c2 X1; have zx0 := Blk.frozen X1 0; have zx1 := Blk.frozen X1 1; have zx2 := Blk.frozen X1 2; have lx := Blk.lt X1; have r0 : (w1).cell? ⟨w.heap.size + 1, 0, none⟩ = some (.string ⟨#[]⟩) := SB.c0 R1; have r1 : (w1).cell? ⟨w.heap.size + 1, 1, none⟩ = some (.bool false) := SB.c1 R1; have r2 : (w1).cell? ⟨w.heap.size + 1, 2, none⟩ = some (.int .i64 0) := SB.c2 R1; have zr0 := Blk.frozen R1 0; have zr1 := Blk.frozen R1 1; have zr2 := Blk.frozen R1 2; have lr := Blk.lt R1)
  have fz : SB (st3 w1 (w.heap.size + 1) s o k) (w.heap.size + 1) s o k := (SB.store R1)
  have tz : Below w.heap.size w (st3 w1 (w.heap.size + 1) s o k) := (Below.st3 B1 (by omega))
  change bodyPost _ _ _ _ _ (st3 w1 (w.heap.size + 1) s o k)
  generalize (st3 w1 (w.heap.size + 1) s o k) = we at fz tz ⊢
  have q0 := SB.c0 fz
  have q1 := SB.c1 fz
  have q2 := SB.c2 fz
  exact bodyPost_ret (v := .tuple #[.agg #[.string s, .bool o, .int .i64 k], .bool false]) (by simp [results, Try.results80, go_sem, q0, q1, q2]) rfl ⟨rfl, tz⟩

set_option maxRecDepth 100000 in
set_option maxHeartbeats 1000000 in
theorem rput_yes {s x : ByteArray} {k : Int} {w : World} {i : Nat} (hs : s.size ≤ 1000000) (hx : x.size ≤ 1000000) (h : i + x.size ≤ s.size) : Calls Try.prog 80 #[.agg #[.string s, .bool true, .int .i64 k], .int .i64 (i : Int), .string x] w fun e w' => e = .returned (.tuple #[.agg #[.string (s.extract 0 i ++ x ++ s.extract (i + x.size) s.size), .bool true, .int .i64 k], .bool true]) ∧ Below w.heap.size w w' := by
  have X0 : SB ((w.alloc (.cells #[.string s, .bool true, .int .i64 k] 67)).alloc (.cells #[.string ⟨#[]⟩, .bool false, .int .i64 0] 67)) w.heap.size s true k := (Blk.new _ _ _).alloc _
  have R0 : SB ((w.alloc (.cells #[.string s, .bool true, .int .i64 k] 67)).alloc (.cells #[.string ⟨#[]⟩, .bool false, .int .i64 0] 67)) (w.heap.size + 1) ⟨#[]⟩ false 0 := Blk.new_at _ _ _ (by simp)
  have B0 : Below w.heap.size w ((w.alloc (.cells #[.string s, .bool true, .int .i64 k] 67)).alloc (.cells #[.string ⟨#[]⟩, .bool false, .int .i64 0] 67)) := ((Below.refl _ _).alloc (Nat.le_refl _) _).alloc (by simp) _
  have HT := Lib.hid (fun w => rthere_yes (w := w) (k := k) hs h)
  have h0 : (0 : Int) ≤ (i : Int) := by omega
  have h1 : (i : Int) ≤ (s.size : Int) := by omega
  have h2 : (i : Int) + (x.size : Int) ≤ (s.size : Int) := by omega
  have h3 : (0 : Int) ≤ (i : Int) + (x.size : Int) := by omega
  have hi := IntWalk.i64_in ((i : Int) + (x.size : Int)) (by omega)
  go_enter Try.func80, Try.ntmps80
  go_wp2_with (go_at_call 79; refine (HT.out _).mono ?_; rintro e w1 ⟨rfl, b1⟩; have X1 : SB w1 w.heap.size s true k := Blk.below X0 b1 (Blk.lt X0); have R1 : SB w1 (w.heap.size + 1) ⟨#[]⟩ false 0 := Blk.below R0 b1 (Blk.lt R0); have B1 := below_next B0 b1; have x0 : (w1).cell? ⟨w.heap.size, 0, none⟩ = some (.string s) := SB.c0 X1; have x1 : (w1).cell? ⟨w.heap.size, 1, none⟩ = some (.bool true) := SB.c1 X1; have x2 : (w1).cell? ⟨w.heap.size, 2, none⟩ = some (.int .i64 k) := SB.c2 X1; have zx0 := Blk.frozen X1 0; have zx1 := Blk.frozen X1 1; have zx2 := Blk.frozen X1 2; have lx := Blk.lt X1; have r0 : (w1).cell? ⟨w.heap.size + 1, 0, none⟩ = some (.string ⟨#[]⟩) := SB.c0 R1; have r1 : (w1).cell? ⟨w.heap.size + 1, 1, none⟩ = some (.bool false) := SB.c1 R1; have r2 : (w1).cell? ⟨w.heap.size + 1, 2, none⟩ = some (.int .i64 0) := SB.c2 R1; have zr0 := Blk.frozen R1 0; have zr1 := Blk.frozen R1 1; have zr2 := Blk.frozen R1 2; have lr := Blk.lt R1)
  have R2 : SB (w1.setCell ⟨w.heap.size, 0, none⟩ (.string (s.extract 0 i ++ x ++ s.extract (i + x.size) s.size))) (w.heap.size + 1) ⟨#[]⟩ false 0 := Blk.far R1 (p := ⟨w.heap.size, 0, none⟩) (by simp) _
  have B2 : Below w.heap.size w (w1.setCell ⟨w.heap.size, 0, none⟩ (.string (s.extract 0 i ++ x ++ s.extract (i + x.size) s.size))) := below_set B1 (Nat.le_refl _)
  go_region
  all_goals go_wp2_with fail
  have fz : SB (st3 (w1.setCell ⟨w.heap.size, 0, none⟩ (.string (s.extract 0 i ++ x ++ s.extract (i + x.size) s.size))) (w.heap.size + 1) (s.extract 0 i ++ x ++ s.extract (i + x.size) s.size) true k).drew (w.heap.size + 1) (s.extract 0 i ++ x ++ s.extract (i + x.size) s.size) true k := Blk.drew (SB.store R2)
  have tz : Below w.heap.size w (st3 (w1.setCell ⟨w.heap.size, 0, none⟩ (.string (s.extract 0 i ++ x ++ s.extract (i + x.size) s.size))) (w.heap.size + 1) (s.extract 0 i ++ x ++ s.extract (i + x.size) s.size) true k).drew := Below.drew (Below.st3 B2 (by omega))
  change bodyPost _ _ _ _ _ (st3 (w1.setCell ⟨w.heap.size, 0, none⟩ (.string (s.extract 0 i ++ x ++ s.extract (i + x.size) s.size))) (w.heap.size + 1) (s.extract 0 i ++ x ++ s.extract (i + x.size) s.size) true k).drew
  generalize (st3 (w1.setCell ⟨w.heap.size, 0, none⟩ (.string (s.extract 0 i ++ x ++ s.extract (i + x.size) s.size))) (w.heap.size + 1) (s.extract 0 i ++ x ++ s.extract (i + x.size) s.size) true k).drew = we at fz tz ⊢
  have q0 := SB.c0 fz
  have q1 := SB.c1 fz
  have q2 := SB.c2 fz
  exact bodyPost_ret (v := .tuple #[.agg #[.string (s.extract 0 i ++ x ++ s.extract (i + x.size) s.size), .bool true, .int .i64 k], .bool true]) (by simp [results, Try.results80, go_sem, q0, q1, q2]) rfl ⟨rfl, tz⟩

set_option maxRecDepth 100000 in
set_option maxHeartbeats 1000000 in
theorem rfree_shut {s : ByteArray} {k : Int} {w : World} (hs : s.size ≤ 1000000) : Calls Try.prog 83 #[.agg #[.string s, .bool false, .int .i64 k]] w fun e w' => e = .returned (.tuple #[.agg #[.string s, .bool false, .int .i64 k], .bool false]) ∧ Below w.heap.size w w' := by
  have X0 : SB ((w.alloc (.cells #[.string s, .bool false, .int .i64 k] 67)).alloc (.cells #[.string ⟨#[]⟩, .bool false, .int .i64 0] 67)) w.heap.size s false k := (Blk.new _ _ _).alloc _
  have R0 : SB ((w.alloc (.cells #[.string s, .bool false, .int .i64 k] 67)).alloc (.cells #[.string ⟨#[]⟩, .bool false, .int .i64 0] 67)) (w.heap.size + 1) ⟨#[]⟩ false 0 := Blk.new_at _ _ _ (by simp)
  have B0 : Below w.heap.size w ((w.alloc (.cells #[.string s, .bool false, .int .i64 k] 67)).alloc (.cells #[.string ⟨#[]⟩, .bool false, .int .i64 0] 67)) := ((Below.refl _ _).alloc (Nat.le_refl _) _).alloc (by simp) _
  go_enter Try.func83, Try.ntmps83
  go_wp2_with fail
  exact bodyPost_ret (v := .tuple #[.agg #[.string s, .bool false, .int .i64 k], .bool false]) (by simp [results, Try.results83, go_sem]) rfl ⟨rfl, ((Below.refl _ _).alloc (Nat.le_refl _) _).alloc (by simp) _⟩

set_option maxRecDepth 100000 in
set_option maxHeartbeats 1000000 in
theorem rfree_open {s : ByteArray} {k : Int} {w : World} {z : Int} (hs : s.size ≤ 1000000) (hk : 0 ≤ k ∧ k ≤ 1000000) (hz : k - (s.size : Int) = z) : Calls Try.prog 83 #[.agg #[.string s, .bool true, .int .i64 k]] w fun e w' => e = .returned (.tuple #[.agg #[.string ⟨#[]⟩, .bool false, .int .i64 z], .bool true]) ∧ Below w.heap.size w w' := by
  have X0 : SB ((w.alloc (.cells #[.string s, .bool true, .int .i64 k] 67)).alloc (.cells #[.string ⟨#[]⟩, .bool false, .int .i64 0] 67)) w.heap.size s true k := (Blk.new _ _ _).alloc _
  have R0 : SB ((w.alloc (.cells #[.string s, .bool true, .int .i64 k] 67)).alloc (.cells #[.string ⟨#[]⟩, .bool false, .int .i64 0] 67)) (w.heap.size + 1) ⟨#[]⟩ false 0 := Blk.new_at _ _ _ (by simp)
  have B0 : Below w.heap.size w ((w.alloc (.cells #[.string s, .bool true, .int .i64 k] 67)).alloc (.cells #[.string ⟨#[]⟩, .bool false, .int .i64 0] 67)) := ((Below.refl _ _).alloc (Nat.le_refl _) _).alloc (by simp) _
  go_enter Try.func83, Try.ntmps83
  go_wp2_with fail
  exact bodyPost_ret (v := .tuple #[.agg #[.string ⟨#[]⟩, .bool false, .int .i64 z], .bool true]) (by simp [results, Try.results83, go_sem]) rfl ⟨rfl, ((Below.refl _ _).alloc (Nat.le_refl _) _).alloc (by simp) _⟩

end Go.Proofs.Ytegoakfhadmblaa
