/- Readings told with all their ways at once: what a budget refuses, what is too short, what is read; a pixel's change; a raster in the making. -/
import Derived.Test.YtccldalagbfmhaaTake
import Derived.Test.YtccldalagbfmhaaDecLaw
import Derived.Test.YtccldalagbfmhaaCols
namespace Go.Proofs.Ytccldalagbfmhaa
open Go.RowKit
set_option linter.unusedVariables false
set_option linter.unusedSimpArgs false

/-- a reading that failed: its fault's kind and place -/
def NoRead (y : Led) (a t kk aa : Nat) : Prop := (y.reason ≠ 0 ∧ kk = 4 ∧ aa = a) ∨ (y.reason = 0 ∧ kk = 1 ∧ aa = t)
theorem NoRead.ne {y : Led} {a t kk aa : Nat} (h : NoRead y a t kk aa) : kk ≠ 0 := by rcases h with ⟨_, rfl, _⟩ | ⟨_, rfl, _⟩ <;> decide
theorem led_work_ways {x : Led} (n : Int) (ok : x.Ok) (hx : x.reason = 0) : (∃ y, x.work n = (y, false) ∧ y.Ok ∧ y.reason ≠ 0 ∧ y.bytes = x.bytes) ∨ (∃ y, x.work n = (y, true) ∧ y.Ok ∧ y.reason = 0 ∧ y.bytes = x.bytes) := by
  obtain ⟨y, v, hw⟩ : ∃ y v, x.work n = (y, v) := ⟨_, _, rfl⟩
  have yok : y.Ok := by have := ok.work n; rw [hw] at this; exact this
  cases v with
  | false =>
    have yno := led_work_no (x := x) (n := n) (by rw [hw]) hx
    rw [hw] at yno
    have e : y = x.refused 3 n := yno
    exact .inl ⟨y, hw, yok, by rw [e]; simp [Led.refused], by rw [e]; rfl⟩
  | true =>
    obtain ⟨_, h1, h2, _⟩ := led_work_yes (x := x) (n := n) (by rw [hw])
    rw [hw] at h1 h2
    exact .inr ⟨y, hw, yok, h1, h2⟩
/-- what a refused or a short reading makes of the rest -/
def NoRun (x y : Led) (a t : Nat) (c : Prop) [Decidable c] (kk aa : Nat) : Prop := ∀ z k, (Dec.work 1 z a (if c then k else .give z (.fin (.bad 1 t)))).run x = ((y.give (z : Int)).1, .bad kk aa)
theorem noRun_spent {x y : Led} {a t : Nat} {c : Prop} [Decidable c] (e : x.work 1 = (y, false)) : NoRun x y a t c 4 a := by
  intro z k
  exact run_work_no e
theorem noRun_short {x y : Led} {a t : Nat} {c : Prop} [Decidable c] (e : x.work 1 = (y, true)) (h : ¬ c) : NoRun x y a t c 1 t := by
  intro z k
  rw [run_work_yes e, if_neg h]
  rfl
section
variable {w w' : World} {p g : Nat} {s : ByteArray} {f t a : Nat} {x y : Led}
/-- the ways of a reading of n bytes: what is told -/
def ReadPost (w w' : World) (p g : Nat) (s : ByteArray) (f t a n : Nat) (x : Led) (e : Ending) (no yes : Value) : Prop :=
  ∃ y, LedAt w' g y ∧ y.Ok ∧ y.bytes = x.bytes ∧ Turn [p, g] w w' ∧
    ((∃ kk aa, e = .returned (.tuple #[no, .bool false]) ∧ SrcAt w' p g s f t a ∧ NoRead y a t kk aa ∧ NoRun x y a t (a + n ≤ t) kk aa) ∨
     (e = .returned (.tuple #[yes, .bool true]) ∧ SrcAt w' p g s f t (a + n) ∧ y.reason = 0 ∧ a + n ≤ t ∧ x.work 1 = (y, true)))
theorem srcTake_ways (n : Nat) (h : SrcAt w p g s f t a) (o : SrcOk s f t a) (k : LedAt w g x) (ok : x.Ok) (hx : x.reason = 0) :
    Calls Try.prog 20 #[.pointer (some ⟨p, 0, none⟩), .int .i64 (n : Int)] w fun e w' => ReadPost w w' p g s f t a n x e (.string ⟨#[]⟩) (.string (s.extract a (a + n))) := by
  rcases led_work_ways 1 ok hx with ⟨y, e, yok, yr, yb⟩ | ⟨y, e, yok, yr, yb⟩
  · refine (take_spent (n : Int) h k ok e).mono ?_
    rintro e' w' ⟨rfl, q1, q2, q3⟩
    exact ⟨y, q2, yok, yb, q3, .inl ⟨4, a, rfl, q1, .inl ⟨yr, rfl, rfl⟩, noRun_spent e⟩⟩
  · by_cases ha : a + n ≤ t
    · refine (take_yes n h o k ok e ha).mono ?_
      rintro e' w' ⟨rfl, q1, q2, q3⟩
      exact ⟨y, q2, yok, yb, q3, .inr ⟨rfl, q1, yr, ha, e⟩⟩
    · refine (take_short (n : Int) h o k ok e (.inr (by have := o.at_; omega))).mono ?_
      rintro e' w' ⟨rfl, q1, q2, q3⟩
      exact ⟨y, q2, yok, yb, q3, .inl ⟨1, t, rfl, q1, .inr ⟨yr, rfl, rfl⟩, noRun_short e ha⟩⟩
theorem srcFault_is {kk aa : Nat} (m : Int) (h : SrcAt w p g s f t a) (k : LedAt w g x) (hk : NoRead x a t kk aa) :
    Calls Try.prog 21 #[.pointer (some ⟨p, 0, none⟩), .int .i64 m] w fun e w' => e = .returned (.agg #[.int .i64 (kk : Int), .int .i64 m, .int .i64 (aa : Int)]) ∧ Below w.heap.size w w' := by
  rcases hk with ⟨hx, rfl, rfl⟩ | ⟨hx, rfl, rfl⟩
  · exact srcFault_spent m h k hx
  · exact srcFault_short m h k hx
end
/-- the ways of a pixel's change: what is told -/
def SetPost (w w' : World) (b g d i : Nat) (l q : List UInt8) (x : Led) (e : Ending) : Prop :=
  ∃ y, LedAt w' g y ∧ y.Ok ∧ y.bytes = x.bytes ∧
    ((e = .returned (.bool false) ∧ Turn [g] w w' ∧ y.reason ≠ 0 ∧ ∀ z a k, (Dec.work 1 z a k).run x = ((y.give (z : Int)).1, .bad 4 a)) ∨
     (e = .returned (.bool true) ∧ Turn [g, d] w w' ∧ BufAt w' b g d (over l i q) ∧ y.reason = 0 ∧ ∀ z a k, (Dec.work 1 z a k).run x = k.run y))
section
variable {w0 w w' : World} {p g r b d f fr t a a' W H : Nat} {s : ByteArray} {l l' : List UInt8} {x y : Led} {i : Nat} {tt : TypeId} {cs : Array Value}
end
/-- a raster whose first pixels are told -/
def pixL (L : List Qc) (z : Nat) : List UInt8 := flat L ++ List.replicate (z - 4 * L.length) 0
theorem pixL_len {L : List Qc} {z : Nat} (h : 4 * L.length ≤ z) : (pixL L z).length = z := by
  unfold pixL
  rw [List.length_append, flat_len, List.length_replicate]
  omega
theorem over_at {a b : List UInt8} {z : Nat} (ha : a.length = z) (q : List UInt8) (hb : q.length ≤ b.length) : over (a ++ b) z q = a ++ q ++ b.drop q.length := by
  subst ha
  unfold over
  rw [List.take_left, ← List.drop_drop, List.drop_left]
theorem pixL_next {L : List Qc} {z : Nat} (c : Qc) (h : 4 * (L.length + 1) ≤ z) : over (pixL L z) (4 * L.length) [c.r, c.g, c.b, c.a] = pixL (L ++ [c]) z := by
  unfold pixL
  rw [over_at (flat_len L) _ (by simp only [List.length_cons, List.length_nil, List.length_replicate]; omega), flat_append, List.drop_replicate]
  have e : flat [c] = [c.r, c.g, c.b, c.a] := by simp [flat, Qc.list]
  rw [e, List.length_append]
  congr 2
theorem pixL_nil (z : Nat) : pixL [] z = List.replicate z 0 := by unfold pixL; simp [flat]
theorem pixL_all {L : List Qc} {z : Nat} (h : 4 * L.length = z) : pixL L z = flat L := by unfold pixL; rw [h, Nat.sub_self]; simp
end Go.Proofs.Ytccldalagbfmhaa
