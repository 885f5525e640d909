/- Arguments opened: a budget; a slice of the ledger's calls. -/
import Derived.Test.YtbegielhfcebdaaOpen
namespace Go.Proofs.Ytbegielhfcebdaa
open Go.ChangeShapes Go.WideShapes Go.Deep Go.RowKit Go.Joins
set_option linter.unusedVariables false

structure OpL where
  k : Int
  n : Int
  m : Int
def noOp : OpL := ⟨0, 0, 0⟩
def fits (z : Int) : Prop := -9223372036854775808 ≤ z ∧ z ≤ 9223372036854775807
structure OpL.Fits (o : OpL) : Prop where
  k : fits o.k
  n : fits o.n
  m : fits o.m
def SliceOps (w : World) (a : Option Addr) (n : Nat) (l : List OpL) : Prop :=
  n = 0 ∨ ∃ b off, a = some ⟨b, off, none⟩ ∧ n ≤ maxLen ∧ l.length = n ∧ ∀ i, i < n → (l.getD i noOp).Fits ∧ w.cell? ⟨b, off + i * 3, none⟩ = some (.int .i64 (l.getD i noOp).k) ∧ w.cell? ⟨b, off + i * 3 + 1, none⟩ = some (.int .i64 (l.getD i noOp).n) ∧ w.cell? ⟨b, off + i * 3 + 2, none⟩ = some (.int .i64 (l.getD i noOp).m)

section
variable {H : Type} {enc : TypeId × Value → H} {w : World} {base : Nat} {spare : Nat → Bool} {held : Bool}

theorem ops_of {a : Option Addr} {len cap : Nat} {d : DataW H} {p : List MemPlace} (hsp : ∀ b, spare b = true) (h : DataW.Trod enc Try.prog w base spare held 24 (.slice a len cap) d p) : ∃ l, SliceOps w a len l := by
  rcases open_structs Try.underlying24 Try.underlying32 (by kernel_rfl) (by kernel_rfl) (by decide) hsp h with h0 | ⟨b, off, rfl, hl, hm, hi⟩
  · exact ⟨[], .inl h0⟩
  · have key : ∀ i, ∃ o : OpL, i < len → o.Fits ∧ w.cell? ⟨b, off + i * 3, none⟩ = some (.int .i64 o.k) ∧ w.cell? ⟨b, off + i * 3 + 1, none⟩ = some (.int .i64 o.n) ∧ w.cell? ⟨b, off + i * 3 + 2, none⟩ = some (.int .i64 o.m) := by
      intro i
      by_cases hil : i < len
      · obtain ⟨n, hn⟩ := hi i hil
        obtain ⟨v0, y0, c0, t0⟩ := hn 0 _ rfl
        obtain ⟨v1, y1, c1, t1⟩ := hn 1 _ rfl
        obtain ⟨v2, y2, c2, t2⟩ := hn 2 _ rfl
        obtain ⟨k0, e0, _, f0⟩ := DataW.trod_int Try.underlying3 t0
        obtain ⟨k1, e1, _, f1⟩ := DataW.trod_int Try.underlying3 t1
        obtain ⟨k2, e2, _, f2⟩ := DataW.trod_int Try.underlying3 t2
        obtain rfl : v0 = .int .i64 k0 := by simpa using e0
        obtain rfl : v1 = .int .i64 k1 := by simpa using e1
        obtain rfl : v2 = .int .i64 k2 := by simpa using e2
        exact ⟨⟨k0, k1, k2⟩, fun _ => ⟨⟨bounds_i64 f0, bounds_i64 f1, bounds_i64 f2⟩, c0, c1, c2⟩⟩
      · exact ⟨noOp, fun h => absurd h hil⟩
    obtain ⟨f, hf⟩ := Classical.axiomOfChoice key
    have hg : ∀ i, i < len → ((List.range len).map f).getD i noOp = f i := fun i hi => by
      simp [List.getD_eq_getElem?_getD, hi]
    refine ⟨(List.range len).map f, .inr ⟨b, off, rfl, by omega, by simp, fun i hi => ?_⟩⟩
    rw [hg i hi]
    exact hf i hi

set_option maxRecDepth 100000 in
theorem budget_of {r : Reach} {b0 : Nat} {v : Value} {d : DataW H} {p : List MemPlace} (hv : Value.okWide Try.prog w r b0 23 v) (h : DataW.Trod enc Try.prog w base spare held 23 v d p) :
    ∃ a b c d : Int, (fits a ∧ fits b ∧ fits c ∧ fits d) ∧ v = .agg #[.int .i64 a, .int .i64 b, .int .i64 c, .int .i64 d] := by
  obtain ⟨v0, v1, v2, v3, y0, y1, y2, y3, n, rfl, _, _, t0, t1, t2, t3⟩ := open_agg4 Try.underlying23 (by kernel_rfl) (by kernel_rfl) hv h
  obtain ⟨k0, e0, _, f0⟩ := DataW.trod_int Try.underlying3 t0
  obtain ⟨k1, e1, _, f1⟩ := DataW.trod_int Try.underlying3 t1
  obtain ⟨k2, e2, _, f2⟩ := DataW.trod_int Try.underlying3 t2
  obtain ⟨k3, e3, _, f3⟩ := DataW.trod_int Try.underlying3 t3
  obtain rfl : v0 = .int .i64 k0 := by simpa using e0
  obtain rfl : v1 = .int .i64 k1 := by simpa using e1
  obtain rfl : v2 = .int .i64 k2 := by simpa using e2
  obtain rfl : v3 = .int .i64 k3 := by simpa using e3
  exact ⟨k0, k1, k2, k3, ⟨bounds_i64 f0, bounds_i64 f1, bounds_i64 f2, bounds_i64 f3⟩, rfl⟩
end
end Go.Proofs.Ytbegielhfcebdaa
