/- A source's Take; a pixel's change that the budget refuses; a fault's box. -/
import Derived.Test.YtccldalagbfmhaaBits
import Derived.Test.YtccldalagbfmhaaRas
namespace Go.Proofs.Ytccldalagbfmhaa
open Go.RowKit
set_option linter.unusedVariables false
set_option linter.unusedSimpArgs false

theorem take_yes {w : World} {p g f t a : Nat} {s : ByteArray} {x y : Led} (n : Nat) (h : SrcAt w p g s f t a) (o : SrcOk s f t a) (k : LedAt w g x) (ok : x.Ok) (e : x.work 1 = (y, true)) (hn : a + n ≤ t) :
    Calls Try.prog 20 #[.pointer (some ⟨p, 0, none⟩), .int .i64 (n : Int)] w fun e w' => e = .returned (.tuple #[.string (s.extract a (a + n)), .bool true]) ∧ SrcAt w' p g s f t (a + n) ∧ LedAt w' g y ∧ Turn [p, g] w w' := by
  have HN := Lib.hid (srcNext_yes n h o k ok e hn)
  clear h k ok e
  go_enter Try.func20, Try.ntmps20
  go_wp2_with (go_at_call 39; refine HN.out.mono ?_; rintro e w1 ⟨rfl, q1, q2, q3⟩)
  go_ret2
  exact ⟨rfl, q1, q2, q3⟩
theorem take_short {w : World} {p g f t a : Nat} {s : ByteArray} {x y : Led} (n : Int) (h : SrcAt w p g s f t a) (o : SrcOk s f t a) (k : LedAt w g x) (ok : x.Ok) (e : x.work 1 = (y, true)) (hn : n < 0 ∨ (t : Int) - a < n) :
    Calls Try.prog 20 #[.pointer (some ⟨p, 0, none⟩), .int .i64 n] w fun e w' => e = .returned (.tuple #[.string ⟨#[]⟩, .bool false]) ∧ SrcAt w' p g s f t a ∧ LedAt w' g y ∧ Turn [p, g] w w' := by
  have HN := Lib.hid (srcNext_short n h o k ok e hn)
  clear h k ok e
  go_enter Try.func20, Try.ntmps20
  go_wp2_with (go_at_call 39; refine HN.out.mono ?_; rintro e w1 ⟨rfl, q1, q2, q3⟩)
  go_ret2
  exact ⟨rfl, q1, q2, q3⟩
theorem take_spent {w : World} {p g f t a : Nat} {s : ByteArray} {x y : Led} (n : Int) (h : SrcAt w p g s f t a) (k : LedAt w g x) (ok : x.Ok) (e : x.work 1 = (y, false)) :
    Calls Try.prog 20 #[.pointer (some ⟨p, 0, none⟩), .int .i64 n] w fun e w' => e = .returned (.tuple #[.string ⟨#[]⟩, .bool false]) ∧ SrcAt w' p g s f t a ∧ LedAt w' g y ∧ Turn [p, g] w w' := by
  have HN := Lib.hid (srcNext_spent n h k ok e)
  clear h k ok e
  go_enter Try.func20, Try.ntmps20
  go_wp2_with (go_at_call 39; refine HN.out.mono ?_; rintro e w1 ⟨rfl, q1, q2, q3⟩)
  go_ret2
  exact ⟨rfl, q1, q2, q3⟩
/-- a fault's box -/
def fl3 (k f a : Int) : Array Value := #[.int .i64 k, .int .i64 f, .int .i64 a]
def FB (w : World) (b : Nat) (k f a : Int) : Prop := Blk w b 37 (fl3 k f a)
def st3 (w : World) (b : Nat) (u v x : Value) : World := ((w.setCell ⟨b, 0, none⟩ u).setCell ⟨b, 1, none⟩ v).setCell ⟨b, 2, none⟩ x
section
variable {w w' a : World} {b g : Nat} {k f i k' f' i' : Int} {t : TypeId} {cs : Array Value} {u v x : Value} {S : List Nat}
theorem FB.new (w : World) : FB (w.alloc (.cells #[.int .i64 0, .int .i64 0, .int .i64 0] 37)) w.heap.size 0 0 0 := Blk.new _ _ _
theorem FB.st3 (h : FB w b k f i) : FB (st3 w b (.int .i64 k') (.int .i64 f') (.int .i64 i')) b k' f' i' := ((Blk.set_ (Blk.set_ (Blk.set_ h 0 _) 1 _) 2 _)).eq_ (by simp [fl3])
theorem FB.all (h : FB w b k f i) : w.cell? ⟨b, 0, none⟩ = some (.int .i64 k) ∧ w.cell? ⟨b, 1, none⟩ = some (.int .i64 f) ∧ w.cell? ⟨b, 2, none⟩ = some (.int .i64 i) ∧ w.frozen? ⟨b, 0, none⟩ = false ∧ w.frozen? ⟨b, 1, none⟩ = false ∧ w.frozen? ⟨b, 2, none⟩ = false ∧ b < w.heap.size :=
  ⟨Blk.cell h 0, Blk.cell h 1, Blk.cell h 2, Blk.frozen h 0, Blk.frozen h 1, Blk.frozen h 2, Blk.lt h⟩
theorem FB.turn (h : FB w b k f i) (t : Turn S w w') (hb : b ∉ S) : FB w' b k f i := Blk.turn h t hb
theorem FB.below (h : FB w b k f i) (t : Below w.heap.size w w') : FB w' b k f i := Blk.below h t (Blk.lt h)
theorem Blk.st3 (h : Blk w g t cs) (hb : g ≠ b) : Blk (st3 w b u v x) g t cs := Blk.far (Blk.far (Blk.far h (p := ⟨b, 0, none⟩) hb _) (p := ⟨b, 1, none⟩) hb _) (p := ⟨b, 2, none⟩) hb _
theorem Turn.st3 (h : Turn S a w) (hb : b ∈ S ∨ a.heap.size ≤ b) : Turn S a (st3 w b u v x) := ((h.set_ 0 u hb).set_ 1 v hb).set_ 2 x hb
end
end Go.Proofs.Ytccldalagbfmhaa
