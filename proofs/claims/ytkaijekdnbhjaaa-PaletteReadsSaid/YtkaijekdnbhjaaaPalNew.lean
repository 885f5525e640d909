/- A palette's block; New; the law PaletteNew. -/
import Derived.Test.YtkaijekdnbhjaaaBuf
import Derived.Test.YtkaijekdnbhjaaaPaletteW
import Derived.Test.YtkaijekdnbhjaaaFresh
namespace Go.Proofs.Ytkaijekdnbhjaaa
open Go.RowKit
set_option linter.unusedVariables false

def palCells (b : Nat) (n m : Int) : Array Value := #[.pointer (some ⟨b, 0, none⟩), .int .i64 n, .int .i64 m]
def PalAt (w : World) (p b : Nat) (n m : Int) : Prop := Blk w p 103 (palCells b n m)

theorem palNew_yes {w : World} {g : Nat} {x y : Led} {m : Nat} (h : LedAt w g x) (ok : x.Ok) (e : x.take ((4 * m : Nat) : Int) = (y, true)) (h1 : 1 ≤ m) (h2 : m ≤ 65536) :
    Calls Try.prog 11 #[.pointer (some ⟨g, 0, none⟩), .int .i64 (m : Int)] w fun e w' => ∃ p b d, e = .returned (.tuple #[.pointer (some ⟨p, 0, none⟩), .int .i64 0]) ∧ PalAt w' p b 0 m ∧ BufAt w' b g d (List.replicate (4 * m) 0) ∧ LedAt w' g y ∧ w.heap.size ≤ p ∧ w.heap.size ≤ b ∧ w.heap.size ≤ d ∧ Turn [g] w w' := by
  have n0 : ¬ (m : Int) < 1 := by omega
  have n1 : ¬ (65536 : Int) < (m : Int) := by omega
  have hi : wrap64 (4 * (m : Int)) = 4 * (m : Int) := wrap64_id _ (by omega) (by omega)
  have HM0 := bufMake_yes h ok e (by omega)
  rw [show ((4 * m : Nat) : Int) = 4 * (m : Int) by omega] at HM0
  have HM := Lib.hid HM0
  clear h ok e HM0
  go_enter Try.func11, Try.ntmps11
  go_wp2_with (go_at_call 46; refine HM.out.mono ?_; rintro e w1 ⟨b, d, rfl, m1, m2, m3, m4, m5⟩)
  go_ret2
  have s1 := m5.size
  exact ⟨w1.heap.size, b, d, rfl, (Blk.new _ _ _).eq_ rfl, ⟨m1.blk.alloc _, m1.row.alloc _⟩, Blk.alloc m2 _, s1, m3, m4, m5.alloc _⟩
theorem palNew_no {w : World} {g : Nat} {x y : Led} {m : Nat} (h : LedAt w g x) (ok : x.Ok) (e : x.take ((4 * m : Nat) : Int) = (y, false)) (h1 : 1 ≤ m) (h2 : m ≤ 65536) :
    Calls Try.prog 11 #[.pointer (some ⟨g, 0, none⟩), .int .i64 (m : Int)] w fun e w' => e = .returned (.tuple #[.pointer none, .int .i64 4]) ∧ LedAt w' g y ∧ Turn [g] w w' := by
  have n0 : ¬ (m : Int) < 1 := by omega
  have n1 : ¬ (65536 : Int) < (m : Int) := by omega
  have hi : wrap64 (4 * (m : Int)) = 4 * (m : Int) := wrap64_id _ (by omega) (by omega)
  have HM0 := bufMake_no h ok e (by omega)
  rw [show ((4 * m : Nat) : Int) = 4 * (m : Int) by omega] at HM0
  have HM := Lib.hid HM0
  clear h ok e HM0
  go_enter Try.func11, Try.ntmps11
  go_wp2_with (go_at_call 46; refine HM.out.mono ?_; rintro e w1 ⟨rfl, m2, m5⟩)
  go_ret2
  exact ⟨rfl, m2, m5⟩
theorem palNew_range (a : Addr) (m : Int) (w : World) (h : m < 1 ∨ 65536 < m) :
    Calls Try.prog 11 #[.pointer (some a), .int .i64 m] w fun e w' => e = .returned (.tuple #[.pointer none, .int .i64 2]) ∧ w = w' := by
  by_cases h1 : m < 1
  · go_enter Try.func11, Try.ntmps11
    go_wp2_with fail
    go_ret2
    exact ⟨rfl, rfl⟩
  · have h2 : 65536 < m := by omega
    clear h
    go_enter Try.func11, Try.ntmps11
    go_wp2_with fail
    go_ret2
    exact ⟨rfl, rfl⟩
theorem palNew_nil (m : Int) (w : World) :
    Calls Try.prog 11 #[.pointer none, .int .i64 m] w fun e w' => e = .returned (.tuple #[.pointer none, .int .i64 1]) ∧ w = w' := by
  go_enter Try.func11, Try.ntmps11
  go_wp2_with fail
  go_ret2
  exact ⟨rfl, rfl⟩
theorem palLen_at {w : World} {p b : Nat} {n m : Int} (h : PalAt w p b n m) :
    Calls Try.prog 18 #[.pointer (some ⟨p, 0, none⟩)] w fun e w' => e = .returned (.int .i64 n) ∧ w = w' := by
  have c1 : w.cell? ⟨p, 1, none⟩ = some (.int .i64 n) := Blk.cell h 1
  clear h
  go_enter Try.func18, Try.ntmps18
  go_wp2_with fail
  go_ret
  exact ⟨rfl, rfl⟩

end Go.Proofs.Ytkaijekdnbhjaaa
