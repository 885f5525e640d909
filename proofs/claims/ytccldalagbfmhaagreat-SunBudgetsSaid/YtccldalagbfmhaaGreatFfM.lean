/- farbfeld: a run by any budget. Arguments opened: a budget; a slice of the ledger's calls. The law FfBudgets: words. -/
import Derived.Test.YtccldalagbfmhaaGreatFfG
import Derived.Test.YtccldalagbfmhaaGreatOpen
namespace Go.Proofs.YtccldalagbfmhaaGreat
open Go.RowKit
set_option linter.unusedVariables false
set_option linter.unusedSimpArgs false

theorem led_fix_work (x : Led) (n : Int) : (x.work n).1.B = x.B ∧ (x.work n).1.S = x.S := by unfold Led.work; split <;> first | exact ⟨rfl, rfl⟩ | (split <;> exact ⟨rfl, rfl⟩)
theorem led_fix_take (x : Led) (n : Int) : (x.take n).1.B = x.B ∧ (x.take n).1.S = x.S := by unfold Led.take; split <;> first | exact ⟨rfl, rfl⟩ | (split <;> exact ⟨rfl, rfl⟩)
theorem led_fix_give (x : Led) (n : Int) : (x.give n).1.B = x.B ∧ (x.give n).1.S = x.S := by unfold Led.give; split <;> exact ⟨rfl, rfl⟩
theorem led_fix_sides (x : Led) (a b : Int) : (x.sides a b).1.B = x.B ∧ (x.sides a b).1.S = x.S := by
  unfold Led.sides
  split
  · exact ⟨rfl, rfl⟩
  · split
    · exact ⟨rfl, rfl⟩
    · split <;> exact ⟨rfl, rfl⟩
theorem Dec.run_fix (d : Dec) : ∀ x : Led, (d.run x).1.B = x.B ∧ (d.run x).1.S = x.S := by
  induction d with
  | fin r => intro x; exact ⟨rfl, rfl⟩
  | work n fr a k ih =>
    intro x
    have h := led_fix_work x n
    unfold Dec.run
    split
    · have := ih (x.work n).1; exact ⟨this.1.trans h.1, this.2.trans h.2⟩
    · have := led_fix_give (x.work n).1 (fr : Int); exact ⟨this.1.trans h.1, this.2.trans h.2⟩
  | sides W H a k ih =>
    intro x
    have h := led_fix_sides x W H
    unfold Dec.run
    split
    · have := ih (x.sides W H).1; exact ⟨this.1.trans h.1, this.2.trans h.2⟩
    · exact h
  | take n a k ih =>
    intro x
    have h := led_fix_take x n
    unfold Dec.run
    split
    · have := ih (x.take n).1; exact ⟨this.1.trans h.1, this.2.trans h.2⟩
    · exact h
  | give n k ih =>
    intro x
    have h := led_fix_give x n
    unfold Dec.run
    have := ih (x.give n).1
    exact ⟨this.1.trans h.1, this.2.trans h.2⟩
  | hold n fr a k ih =>
    intro x
    have h := led_fix_take x n
    unfold Dec.run
    split
    · have := ih (x.take n).1; exact ⟨this.1.trans h.1, this.2.trans h.2⟩
    · have := led_fix_give (x.take n).1 (fr : Int); exact ⟨this.1.trans h.1, this.2.trans h.2⟩
/-- what a run by any budget leaves -/
inductive AnyRun (fm : Int) (d : Dec) (e : Nat) (w w' : World) (g : Nat) (y : Led) (en : Ending) : Prop where
  | spent (a : Nat) (h : a ≤ e) (r : y.reason ≠ 0) (b : y.bytes = 0) (k : en = .returned (.tuple #[.agg #[.int .i64 0, .int .i64 0, .slice none 0 0], .agg #[.int .i64 4, .int .i64 fm, .int .i64 (a : Int)], .pointer (some ⟨g, 0, none⟩)])) : AnyRun fm d e w w' g y en
  | bad (k a : Nat) (h0 : k ≠ 0) (h4 : k ≠ 4) (t : d.told = .bad k a) (u : en = .returned (.tuple #[.agg #[.int .i64 0, .int .i64 0, .slice none 0 0], .agg #[.int .i64 (k : Int), .int .i64 fm, .int .i64 (a : Int)], .pointer (some ⟨g, 0, none⟩)])) : AnyRun fm d e w w' g y en
  | img (W H : Nat) (l : List UInt8) (c : Nat) (t : d.told = .img W H l) (u : en = .returned (.tuple #[.agg #[.int .i64 (W : Int), .int .i64 (H : Int), .slice (some ⟨c, 0, none⟩) l.length l.length], .agg #[.int .i64 0, .int .i64 0, .int .i64 0], .pointer (some ⟨g, 0, none⟩)])) (b : BytesAt w' (some ⟨c, 0, none⟩) l.length l) : AnyRun fm d e w w' g y en
theorem anyRun {fm : Int} {d : Dec} {e : Nat} {x0 : Led} {w w' : World} {en : Ending} (hb : d.bal e 0) (hr : x0.reason = 0) (h0 : x0.bytes = 0) (h : RunPost fm d x0 w w' en) : ∃ g y, LedAt w' g y ∧ y.Ok ∧ y.B = x0.B ∧ y.S = x0.S ∧ Below w.heap.size w w' ∧ AnyRun fm d e w w' g y en := by
  obtain ⟨g, y, l, yok, gn, bl, hor⟩ := h
  have hf := d.run_fix x0
  have hc := Dec.run_cases e d 0 x0 hb hr h0
  rcases hor with ⟨k, a, hk, hrun, rfl⟩ | ⟨W, H, l', c, hrun, rfl, hbt⟩
  · rw [hrun] at hf hc
    refine ⟨g, y, l, yok, hf.1, hf.2, bl, ?_⟩
    rcases hc with ⟨a', h1, h2, h3, h4⟩ | ⟨h2, h3, h4⟩
    · obtain ⟨rfl, rfl⟩ := DRes.bad_inj h2
      exact .spent a h1 h3 h4 rfl
    · exact .bad k a hk (told_ne d 0 hb h2.symm).1 h2.symm rfl
  · rw [hrun] at hf hc
    refine ⟨g, y, l, yok, hf.1, hf.2, bl, ?_⟩
    rcases hc with ⟨a', h1, h2, h3, h4⟩ | ⟨h2, h3, h4⟩
    · cases h2
    · exact .img W H l' c h2.symm rfl hbt
end Go.Proofs.YtccldalagbfmhaaGreat
namespace Go.Proofs.YtccldalagbfmhaaGreat
open Go.ChangeShapes Go.WideShapes Go.Deep Go.RowKit Go.Joins
set_option linter.unusedVariables false

structure OpL where
  k : Int
  n : Int
  m : Int
def noOp : OpL := ⟨0, 0, 0⟩
def fits (z : Int) : Prop := -9223372036854775808 ≤ z ∧ z ≤ 9223372036854775807
structure OpL.Fits (o : OpL) : Prop where
  k : fits o.k
  n : fits o.n
  m : fits o.m
def SliceOps (w : World) (a : Option Addr) (n : Nat) (l : List OpL) : Prop :=
  n = 0 ∨ ∃ b off, a = some ⟨b, off, none⟩ ∧ n ≤ maxLen ∧ l.length = n ∧ ∀ i, i < n → (l.getD i noOp).Fits ∧ w.cell? ⟨b, off + i * 3, none⟩ = some (.int .i64 (l.getD i noOp).k) ∧ w.cell? ⟨b, off + i * 3 + 1, none⟩ = some (.int .i64 (l.getD i noOp).n) ∧ w.cell? ⟨b, off + i * 3 + 2, none⟩ = some (.int .i64 (l.getD i noOp).m)

section
variable {H : Type} {enc : TypeId × Value → H} {w : World} {base : Nat} {spare : Nat → Bool} {held : Bool}

set_option maxRecDepth 100000 in
theorem budget_of {r : Reach} {b0 : Nat} {v : Value} {d : DataW H} {p : List MemPlace} (hv : Value.okWide Tryz.prog w r b0 23 v) (h : DataW.Trod enc Tryz.prog w base spare held 23 v d p) :
    ∃ a b c d : Int, (fits a ∧ fits b ∧ fits c ∧ fits d) ∧ v = .agg #[.int .i64 a, .int .i64 b, .int .i64 c, .int .i64 d] := by
  obtain ⟨v0, v1, v2, v3, y0, y1, y2, y3, n, rfl, _, _, t0, t1, t2, t3⟩ := open_agg4 Tryz.underlying23 (by kernel_rfl) (by kernel_rfl) hv h
  obtain ⟨k0, e0, _, f0⟩ := DataW.trod_int Tryz.underlying3 t0
  obtain ⟨k1, e1, _, f1⟩ := DataW.trod_int Tryz.underlying3 t1
  obtain ⟨k2, e2, _, f2⟩ := DataW.trod_int Tryz.underlying3 t2
  obtain ⟨k3, e3, _, f3⟩ := DataW.trod_int Tryz.underlying3 t3
  obtain rfl : v0 = .int .i64 k0 := by simpa using e0
  obtain rfl : v1 = .int .i64 k1 := by simpa using e1
  obtain rfl : v2 = .int .i64 k2 := by simpa using e2
  obtain rfl : v3 = .int .i64 k3 := by simpa using e3
  exact ⟨k0, k1, k2, k3, ⟨bounds_i64 f0, bounds_i64 f1, bounds_i64 f2, bounds_i64 f3⟩, rfl⟩
end
end Go.Proofs.YtccldalagbfmhaaGreat
namespace Go.Proofs.YtccldalagbfmhaaGreat
open Go.RowKit
set_option linter.unusedVariables false
set_option linter.unusedSimpArgs false

theorem steps_at27 {w : World} {g : Nat} {x : Led} {q : Int} (h : LedAt w g x) (e : x.steps = q) : Calls Tryz.prog 18 #[.pointer (some ⟨g, 0, none⟩)] w fun e w' => e = .returned (.int .i64 q) ∧ w = w' := by
  have hc := h.steps
  rw [e] at hc
  clear h e
  go_enter Tryz.func18, Tryz.ntmps18
  go_wp2_with (go_at_call 64; refine (load64 _ _ _ hc).mono ?_; rintro e w' ⟨rfl, rfl⟩)
  go_ret
  exact ⟨rfl, rfl⟩
theorem bytesNone (w : World) : BytesAt w none 0 [] := ⟨rfl, .inl rfl⟩
theorem nought_max (c : Int) : nought c = max c 0 := by unfold nought; split <;> omega
/-- the box of a budget -/
def GB (w : World) (b : Nat) (p0 p1 p2 p3 : Int) : Prop := Blk w b 23 #[.int .i64 p0, .int .i64 p1, .int .i64 p2, .int .i64 p3]
theorem GB.all {w : World} {b : Nat} {p0 p1 p2 p3 : Int} (h : GB w b p0 p1 p2 p3) : w.cell? ⟨b, 0, none⟩ = some (.int .i64 p0) ∧ w.cell? ⟨b, 1, none⟩ = some (.int .i64 p1) ∧ w.cell? ⟨b, 2, none⟩ = some (.int .i64 p2) ∧ w.cell? ⟨b, 3, none⟩ = some (.int .i64 p3) := ⟨Blk.cell h 0, Blk.cell h 1, Blk.cell h 2, Blk.cell h 3⟩
end Go.Proofs.YtccldalagbfmhaaGreat
