/- The document's Be and Bad. The document's check of a farbfeld head, and Sides. The document's Sides of a farbfeld file. -/
import Derived.Test.YtgmgcfjllijhgaaGreatDecLaw
import Derived.Test.YtgmgcfjllijhgaaGreatTake
import Derived.Test.YtgmgcfjllijhgaaGreatFfD
namespace Go.Proofs.YtgmgcfjllijhgaaGreat
open Go.RowKit
set_option linter.unusedVariables false
set_option linter.unusedSimpArgs false

set_option maxRecDepth 100000 in
theorem refBeC (x : ByteArray) (hx : x.size ≤ 4) (w : World) : Calls Tryz.prog 72 #[.string x] w fun e w' => e = .returned (.int .i64 (beN x 0 x.size : Int)) ∧ w = w' := by
  go_enter Tryz.func72, Tryz.ntmps72
  go_wp2_with fail
  go_loopg [3, 4] x.size (fun m v k wr => ∃ j : Nat, j + m = x.size ∧ v = .int .i64 (beN x 0 j : Int) ∧ k = .int .i64 (j : Int) ∧ w = wr)
  case atStart => exact ⟨0, by omega, rfl, rfl, rfl⟩
  case round =>
    obtain ⟨j, hj, rfl, rfl, rfl⟩ := hrel
    by_cases hlt : j < x.size
    · have hltI : (j : Int) < (x.size : Int) := by omega
      have hb := beN_lt x 0 j
      have hp : 256 ^ j ≤ 256 ^ 3 := Nat.pow_le_pow_right (by omega) (by omega)
      have hbat := bat_eq (s := x) (i := j) hlt
      have hc := bat_lt x j
      rw [hbat] at hc
      have hv := Lib.hid (show (256 * (beN x 0 j : Int) + ((x[j].toNat : Nat) : Int)) = (beN x 0 (j + 1) : Int) by rw [beN, Nat.zero_add, hbat]; omega)
      obtain ⟨t, ht⟩ : ∃ t, beN x 0 j = t := ⟨_, rfl⟩
      rw [ht] at hv ⊢
      have hbI : (t : Int) < 16777216 := by omega
      have hcI : ((x[j].toNat : Nat) : Int) < 256 := by omega
      clear hb hp hbat hc ht
      go_wp2_with fail
      go_roundg (x.size - (j + 1))
      case measure => omega
      case rel => exact ⟨j + 1, by omega, vint hv.out, by go_num, rfl⟩
    · obtain rfl : j = x.size := by omega
      have hltI : ¬ (x.size : Int) < (x.size : Int) := by omega
      go_wp2_with fail
      go_ret
      exact ⟨rfl, rfl⟩
theorem refBe_at {s : ByteArray} {a n v : Nat} (h : a + n ≤ s.size) (hn : n ≤ 4) (hv : beN s a n = v) (w : World) : Calls Tryz.prog 72 #[.string (s.extract a (a + n))] w fun e w' => e = .returned (.int .i64 (v : Int)) ∧ w = w' := by
  have e := extract_size s a n h
  have := refBeC (s.extract a (a + n)) (by omega) w
  rw [e, beN_extract s a n n (Nat.le_refl _), hv] at this
  exact this
/-- a fault of the document -/
def riBad (k a : Int) : Array Value := #[.int .i64 0, .int .i64 0, .slice none 0 0, .int .i64 k, .int .i64 a]
theorem refBadC (k a : Int) (w : World) : Calls Tryz.prog 32 #[.int .i64 k, .int .i64 a] w fun e w' => e = .returned (.agg #[.int .i64 0, .int .i64 0, .slice none 0 0, .int .i64 k, .int .i64 a]) ∧ Below w.heap.size w w' := by
  go_enter Tryz.func32, Tryz.ntmps32
  go_wp2_with fail
  exact bodyPost_ret (v := .agg #[.int .i64 0, .int .i64 0, .slice none 0 0, .int .i64 k, .int .i64 a]) (by simp [results, Tryz.results32, go_sem]) rfl ⟨rfl, (Below.refl _ _).alloc (Nat.le_refl _) _⟩
/-- the box of a document's image -/
def ri5 (W H : Int) (v : Value) (k a : Int) : Array Value := #[.int .i64 W, .int .i64 H, v, .int .i64 k, .int .i64 a]
def RI (w : World) (b : Nat) (W H : Int) (v : Value) (k a : Int) : Prop := Blk w b 28 (ri5 W H v k a)
def st5 (w : World) (b : Nat) (u0 u1 u2 u3 u4 : Value) : World := ((((w.setCell ⟨b, 0, none⟩ u0).setCell ⟨b, 1, none⟩ u1).setCell ⟨b, 2, none⟩ u2).setCell ⟨b, 3, none⟩ u3).setCell ⟨b, 4, none⟩ u4
section
variable {w w' a : World} {b g : Nat} {W H W' H' k i k' i' : Int} {t : TypeId} {cs : Array Value} {v v' u0 u1 u2 u3 u4 : Value} {S : List Nat} {B : Nat}
theorem RI.new (w : World) : RI (w.alloc (.cells #[.int .i64 0, .int .i64 0, .slice none 0 0, .int .i64 0, .int .i64 0] 28)) w.heap.size 0 0 (.slice none 0 0) 0 0 := Blk.new _ _ _
theorem RI.st5 (h : RI w b W H v k i) : RI (st5 w b (.int .i64 W') (.int .i64 H') v' (.int .i64 k') (.int .i64 i')) b W' H' v' k' i' := ((Blk.set_ (Blk.set_ (Blk.set_ (Blk.set_ (Blk.set_ h 0 _) 1 _) 2 _) 3 _) 4 _)).eq_ (by simp [ri5])
theorem RI.all (h : RI w b W H v k i) : w.cell? ⟨b, 0, none⟩ = some (.int .i64 W) ∧ w.cell? ⟨b, 1, none⟩ = some (.int .i64 H) ∧ w.cell? ⟨b, 2, none⟩ = some v ∧ w.cell? ⟨b, 3, none⟩ = some (.int .i64 k) ∧ w.cell? ⟨b, 4, none⟩ = some (.int .i64 i) ∧ w.frozen? ⟨b, 0, none⟩ = false ∧ w.frozen? ⟨b, 1, none⟩ = false ∧ w.frozen? ⟨b, 2, none⟩ = false ∧ w.frozen? ⟨b, 3, none⟩ = false ∧ w.frozen? ⟨b, 4, none⟩ = false ∧ b < w.heap.size :=
  ⟨Blk.cell h 0, Blk.cell h 1, Blk.cell h 2, Blk.cell h 3, Blk.cell h 4, Blk.frozen h 0, Blk.frozen h 1, Blk.frozen h 2, Blk.frozen h 3, Blk.frozen h 4, Blk.lt h⟩
theorem Blk.st5 (h : Blk w g t cs) (hb : g ≠ b) : Blk (st5 w b u0 u1 u2 u3 u4) g t cs := Blk.far (Blk.far (Blk.far (Blk.far (Blk.far h (p := ⟨b, 0, none⟩) hb _) (p := ⟨b, 1, none⟩) hb _) (p := ⟨b, 2, none⟩) hb _) (p := ⟨b, 3, none⟩) hb _) (p := ⟨b, 4, none⟩) hb _
theorem Below.st5 (h : Below B a w) (hb : B ≤ b) : Below B a (st5 w b u0 u1 u2 u3 u4) := below_set (below_set (below_set (below_set (below_set h hb) hb) hb) hb) hb
end
end Go.Proofs.YtgmgcfjllijhgaaGreat
namespace Go.Proofs.YtgmgcfjllijhgaaGreat
open Go.RowKit
set_option linter.unusedVariables false
set_option linter.unusedSimpArgs false

theorem ri_new (w : World) : RI (w.alloc (.cells #[.int .i64 0, .int .i64 0, .slice none 0 0, .int .i64 0, .int .i64 0] 28)) w.heap.size 0 0 (.slice none 0 0) 0 0 ∧ Below w.heap.size w (w.alloc (.cells #[.int .i64 0, .int .i64 0, .slice none 0 0, .int .i64 0, .int .i64 0] 28)) := ⟨RI.new w, (Below.refl _ _).alloc (Nat.le_refl _) _⟩
def riTold (o : Option (Nat × Nat)) : Value := match o with | none => .agg #[.int .i64 0, .int .i64 0, .slice none 0 0, .int .i64 0, .int .i64 0] | some f => .agg #[.int .i64 0, .int .i64 0, .slice none 0 0, .int .i64 (f.1 : Int), .int .i64 (f.2 : Int)]
end Go.Proofs.YtgmgcfjllijhgaaGreat
namespace Go.Proofs.YtgmgcfjllijhgaaGreat
open Go.RowKit
set_option linter.unusedVariables false
set_option linter.unusedSimpArgs false

theorem riFld3 (a b c d e : Value) : ∀ w, (Instr.field 28 (.agg #[a, b, c, d, e]) 3).run Tryz.prog w = .ok d w := fun _ => by kernel_rfl
theorem ffHead_ne {s : ByteArray} {f : Nat × Nat} (h : ffHead s = some f) : f.1 ≠ 0 ∧ f.1 ≠ 4 := by
  have hk := ffHead_is s
  rw [h] at hk
  cases hk <;> simp
theorem ffHead_sides {s : ByteArray} (h : ffHead s = none) : 1 ≤ beN s 8 4 ∧ beN s 8 4 ≤ 16384 ∧ 1 ≤ beN s 12 4 ∧ beN s 12 4 ≤ 16384 := by
  have hk := ffHead_is s
  rw [h] at hk
  cases hk with
  | ok o a b c d => exact ⟨a, b, c, d⟩
end Go.Proofs.YtgmgcfjllijhgaaGreat
