/- Arguments opened: faults. -/
import Derived.Test.YtcngapfncnjlcaaDoorOpen
namespace Go.Proofs.YtcngapfncnjlcaaDoor
open Go.ChangeShapes Go.WideShapes Go.Deep Go.RowKit Go.Joins
set_option linter.unusedVariables false

structure FltL where
  k : Int
  n : Int
  m : Int
def noFlt : FltL := ⟨0, 0, 0⟩
def fitsF (z : Int) : Prop := -9223372036854775808 ≤ z ∧ z ≤ 9223372036854775807
structure FltL.Fits (o : FltL) : Prop where
  k : fitsF o.k
  n : fitsF o.n
  m : fitsF o.m
def SliceFaults (w : World) (a : Option Addr) (n : Nat) (l : List FltL) : Prop :=
  n = 0 ∨ ∃ b off, a = some ⟨b, off, none⟩ ∧ n ≤ maxLen ∧ l.length = n ∧ ∀ i, i < n → (l.getD i noFlt).Fits ∧ w.cell? ⟨b, off + i * 3, none⟩ = some (.int .i64 (l.getD i noFlt).k) ∧ w.cell? ⟨b, off + i * 3 + 1, none⟩ = some (.int .i64 (l.getD i noFlt).n) ∧ w.cell? ⟨b, off + i * 3 + 2, none⟩ = some (.int .i64 (l.getD i noFlt).m)

section
variable {H : Type} {enc : TypeId × Value → H} {w : World} {base : Nat} {spare : Nat → Bool} {held : Bool}

theorem faults_of {a : Option Addr} {len cap : Nat} {d : DataW H} {p : List MemPlace} (hsp : ∀ b, spare b = true) (h : DataW.Trod enc Tryd.prog w base spare held 22 (.slice a len cap) d p) : ∃ l, SliceFaults w a len l := by
  rcases open_structs Tryd.underlying22 Tryd.underlying27 (by kernel_rfl) (by kernel_rfl) (by decide) hsp h with h0 | ⟨b, off, rfl, hl, hm, hi⟩
  · exact ⟨[], .inl h0⟩
  · have key : ∀ i, ∃ o : FltL, i < len → o.Fits ∧ w.cell? ⟨b, off + i * 3, none⟩ = some (.int .i64 o.k) ∧ w.cell? ⟨b, off + i * 3 + 1, none⟩ = some (.int .i64 o.n) ∧ w.cell? ⟨b, off + i * 3 + 2, none⟩ = some (.int .i64 o.m) := by
      intro i
      by_cases hil : i < len
      · obtain ⟨n, hn⟩ := hi i hil
        obtain ⟨v0, y0, c0, t0⟩ := hn 0 _ rfl
        obtain ⟨v1, y1, c1, t1⟩ := hn 1 _ rfl
        obtain ⟨v2, y2, c2, t2⟩ := hn 2 _ rfl
        obtain ⟨k0, e0, _, f0⟩ := DataW.trod_int Tryd.underlying3 t0
        obtain ⟨k1, e1, _, f1⟩ := DataW.trod_int Tryd.underlying3 t1
        obtain ⟨k2, e2, _, f2⟩ := DataW.trod_int Tryd.underlying3 t2
        obtain rfl : v0 = .int .i64 k0 := by simpa using e0
        obtain rfl : v1 = .int .i64 k1 := by simpa using e1
        obtain rfl : v2 = .int .i64 k2 := by simpa using e2
        exact ⟨⟨k0, k1, k2⟩, fun _ => ⟨⟨bounds_i64 f0, bounds_i64 f1, bounds_i64 f2⟩, c0, c1, c2⟩⟩
      · exact ⟨noFlt, fun h => absurd h hil⟩
    obtain ⟨f, hf⟩ := Classical.axiomOfChoice key
    have hg : ∀ i, i < len → ((List.range len).map f).getD i noFlt = f i := fun i hi => by
      simp [List.getD_eq_getElem?_getD, hi]
    refine ⟨(List.range len).map f, .inr ⟨b, off, rfl, by omega, by simp, fun i hi => ?_⟩⟩
    rw [hg i hi]
    exact hf i hi

end
end Go.Proofs.YtcngapfncnjlcaaDoor
