/- Arguments opened: a slice of a buffer's calls. -/
import Derived.Test.YtegoakfhadmblaaOpen
namespace Go.Proofs.Ytegoakfhadmblaa
open Go.ChangeShapes Go.WideShapes Go.Deep Go.RowKit Go.Joins
set_option linter.unusedVariables false

structure OpY where
  K : Int
  I : Int
  N : Int
  V : Int
  S : ByteArray
def noOpY : OpY := ⟨0, 0, 0, 0, ⟨#[]⟩⟩
def fitY (z : Int) : Prop := -9223372036854775808 ≤ z ∧ z ≤ 9223372036854775807
structure OpY.Fits (o : OpY) : Prop where
  K : fitY o.K
  I : fitY o.I
  N : fitY o.N
  V : 0 ≤ o.V ∧ o.V ≤ 255
  S : o.S.size ≤ maxLen
def SliceY (w : World) (a : Option Addr) (n : Nat) (l : List OpY) : Prop :=
  n = 0 ∨ ∃ b off, a = some ⟨b, off, none⟩ ∧ n ≤ maxLen ∧ l.length = n ∧ ∀ i, i < n → (l.getD i noOpY).Fits ∧ w.cell? ⟨b, off + i * 5, none⟩ = some (.int .i64 (l.getD i noOpY).K) ∧ w.cell? ⟨b, off + i * 5 + 1, none⟩ = some (.int .i64 (l.getD i noOpY).I) ∧ w.cell? ⟨b, off + i * 5 + 2, none⟩ = some (.int .i64 (l.getD i noOpY).N) ∧ w.cell? ⟨b, off + i * 5 + 3, none⟩ = some (.int .u8 (l.getD i noOpY).V) ∧ w.cell? ⟨b, off + i * 5 + 4, none⟩ = some (.string (l.getD i noOpY).S)
section
variable {H : Type} {enc : TypeId × Value → H} {w : World} {base : Nat} {spare : Nat → Bool} {held : Bool}
theorem opsY_of {a : Option Addr} {len cap : Nat} {d : DataW H} {p : List MemPlace} (hsp : ∀ b, spare b = true) (h : DataW.Trod enc Try.prog w base spare held 61 (.slice a len cap) d p) : ∃ l, SliceY w a len l := by
  rcases open_structs Try.underlying61 Try.underlying69 (by kernel_rfl) (by kernel_rfl) (by decide) hsp h with h0 | ⟨b, off, rfl, hl, hm, hi⟩
  · exact ⟨[], .inl h0⟩
  · have key : ∀ i, ∃ o : OpY, i < len → o.Fits ∧ w.cell? ⟨b, off + i * 5, none⟩ = some (.int .i64 o.K) ∧ w.cell? ⟨b, off + i * 5 + 1, none⟩ = some (.int .i64 o.I) ∧ w.cell? ⟨b, off + i * 5 + 2, none⟩ = some (.int .i64 o.N) ∧ w.cell? ⟨b, off + i * 5 + 3, none⟩ = some (.int .u8 o.V) ∧ w.cell? ⟨b, off + i * 5 + 4, none⟩ = some (.string o.S) := by
      intro i
      by_cases hil : i < len
      · obtain ⟨n, hn⟩ := hi i hil
        obtain ⟨v0, y0, c0, t0⟩ := hn 0 _ rfl
        obtain ⟨v1, y1, c1, t1⟩ := hn 1 _ rfl
        obtain ⟨v2, y2, c2, t2⟩ := hn 2 _ rfl
        obtain ⟨v3, y3, c3, t3⟩ := hn 3 _ rfl
        obtain ⟨v4, y4, c4, t4⟩ := hn 4 _ rfl
        obtain ⟨k0, e0, _, f0⟩ := DataW.trod_int Try.underlying3 t0
        obtain ⟨k1, e1, _, f1⟩ := DataW.trod_int Try.underlying3 t1
        obtain ⟨k2, e2, _, f2⟩ := DataW.trod_int Try.underlying3 t2
        obtain ⟨k3, e3, _, f3⟩ := DataW.trod_int Try.underlying5 t3
        obtain ⟨k4, e4, _, f4⟩ := DataW.trod_string Try.underlying9 t4
        obtain rfl : v0 = .int .i64 k0 := by simpa using e0
        obtain rfl : v1 = .int .i64 k1 := by simpa using e1
        obtain rfl : v2 = .int .i64 k2 := by simpa using e2
        obtain rfl : v3 = .int .u8 k3 := by simpa using e3
        obtain rfl : v4 = .string k4 := by simpa using e4
        exact ⟨⟨k0, k1, k2, k3, k4⟩, fun _ => ⟨⟨bounds_i64 f0, bounds_i64 f1, bounds_i64 f2, bounds_u8 f3, f4⟩, c0, c1, c2, c3, c4⟩⟩
      · exact ⟨noOpY, fun h => absurd h hil⟩
    obtain ⟨f, hf⟩ := Classical.axiomOfChoice key
    have hg : ∀ i, i < len → ((List.range len).map f).getD i noOpY = f i := fun i hi => by
      simp [List.getD_eq_getElem?_getD, hi]
    refine ⟨(List.range len).map f, .inr ⟨b, off, rfl, by omega, by simp, fun i hi => ?_⟩⟩
    rw [hg i hi]
    exact hf i hi
end
end Go.Proofs.Ytegoakfhadmblaa
