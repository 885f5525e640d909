/- Arguments opened: a slice of a raster's calls (a struct with a struct in it). -/
import Derived.Test.YtfgcbhcfekonnaaOpen
import Derived.Test.YtfgcbhcfekonnaaCols
namespace Go.Proofs.Ytfgcbhcfekonnaa
open Go.ChangeShapes Go.WideShapes Go.Deep Go.RowKit Go.Joins
set_option linter.unusedVariables false

section
variable {H : Type} {enc : TypeId × Value → H} {P : Program} {w : World} {base : Nat} {spare : Nat → Bool} {held : Bool}
/-- a slice's elements: each one's cells, and their reading -/
theorem open_elems {t e : TypeId} {k : Nat} {a : Option Addr} {len cap : Nat} {d : DataW H} {p : List MemPlace} (ht : P.underlying t = some (.slice e))
    (hC : P.cellsOf e = k) (hpos : 0 < k) (hsp : ∀ b, spare b = true) (h : DataW.Trod enc P w base spare held t (.slice a len cap) d p) :
    len = 0 ∨ ∃ b off, a = some ⟨b, off, none⟩ ∧ len ≤ cap ∧ cap ≤ maxLen ∧
      ∀ i, i < len → ∃ (n : Nat) (cs : List Value) (y : DataW H × List MemPlace), cs.length = k ∧ (∀ j, j < k → w.cell? ⟨b, off + i * k + j, none⟩ = cs[j]?) ∧ DataW.trod enc P w base spare held n e cs = some y := by
  obtain ⟨fuel, hf⟩ := h
  simp only [Value.cells] at hf
  rcases open_slice ht hf with ⟨hcs, _⟩ | ⟨a', len', cap', m, n, D, Pl, hcs, hb, hl, hm, hmm, hx, hi⟩
  · simp only [List.cons.injEq, Value.slice.injEq] at hcs
    exact .inl hcs.1.2.1
  · simp only [List.cons.injEq, Value.slice.injEq] at hcs
    obtain ⟨⟨rfl, rfl, rfl⟩, _⟩ := hcs
    rcases Nat.eq_zero_or_pos len with h0 | hp
    · exact .inl h0
    right
    have hmlen : m = cap := by rw [hmm, hsp, if_pos rfl]
    obtain ⟨b, off, spot⟩ := a'
    have step : ∀ i, i < len → ∃ (n : Nat) (cs : List Value) (y : DataW H × List MemPlace), cs.length = k ∧ (∀ j, j < k → w.cell? ((⟨b, off, spot⟩ : Addr).add (i * k + j)) = cs[j]?) ∧ DataW.trod enc P w base spare held n e cs = some y := by
      intro i him
      obtain ⟨cs', hc, ht'⟩ := hi i (by omega)
      rw [hC] at hc
      obtain ⟨_, hcl, hat⟩ := World.cells?_some hc
      refine ⟨_, cs', _, hcl, fun j hj => ?_, ht'⟩
      rw [← Go.Deep.add_add, hat j hj]
    have hspot : spot = none := by
      obtain ⟨n, cs, y, hl, hc, _⟩ := step 0 hp
      have hc := hc 0 hpos
      have e : ((⟨b, off, spot⟩ : Addr).add (0 * k + 0)) = ⟨b, off, spot⟩ := by simp [Addr.add]
      rw [e, List.getElem?_eq_getElem (by omega)] at hc
      simpa using World.cell?_spot hc
    subst hspot
    refine ⟨b, off, rfl, hl, hm, fun i him => ?_⟩
    obtain ⟨n, cs, y, hl, hc, ht⟩ := step i him
    refine ⟨n, cs, y, hl, fun j hj => ?_, ht⟩
    rw [← hc j hj, addr_add_lit _ rfl, ← Nat.add_assoc]
end

theorem trod_cut {H : Type} {enc : TypeId × Value → H} {P : Program} {w : World} {base : Nat} {spare : Nat → Bool} {held : Bool} {t : TypeId} {fuel n off : Nat} {cs l : List Value} {y : DataW H × List MemPlace} (e : (cs.drop off).take n = l)
    (h : DataW.trod enc P w base spare held fuel t ((cs.drop off).take n) = some y) : DataW.trod enc P w base spare held fuel t l = some y := e ▸ h
structure OpZ where
  K : Int
  X : Int
  Y : Int
  c : Qc
def noOpZ : OpZ := ⟨0, 0, 0, ⟨0, 0, 0, 0⟩⟩
def fitZ (z : Int) : Prop := -9223372036854775808 ≤ z ∧ z ≤ 9223372036854775807
structure OpZ.Fits (o : OpZ) : Prop where
  K : fitZ o.K
  X : fitZ o.X
  Y : fitZ o.Y
structure OpZ.At (w : World) (b k : Nat) (o : OpZ) : Prop where
  c0 : w.cell? ⟨b, k, none⟩ = some (.int .i64 o.K)
  c1 : w.cell? ⟨b, k + 1, none⟩ = some (.int .i64 o.X)
  c2 : w.cell? ⟨b, k + 2, none⟩ = some (.int .i64 o.Y)
  c3 : w.cell? ⟨b, k + 3, none⟩ = some (.int .u8 (o.c.r.toNat : Int))
  c4 : w.cell? ⟨b, k + 4, none⟩ = some (.int .u8 (o.c.g.toNat : Int))
  c5 : w.cell? ⟨b, k + 5, none⟩ = some (.int .u8 (o.c.b.toNat : Int))
  c6 : w.cell? ⟨b, k + 6, none⟩ = some (.int .u8 (o.c.a.toNat : Int))
def SliceZ (w : World) (a : Option Addr) (n : Nat) (l : List OpZ) : Prop :=
  n = 0 ∨ ∃ b off, a = some ⟨b, off, none⟩ ∧ n ≤ maxLen ∧ l.length = n ∧ ∀ i, i < n → (l.getD i noOpZ).Fits ∧ (l.getD i noOpZ).At w b (off + i * 7)
theorem byteOf {k : Int} (h : 0 ≤ k ∧ k ≤ 255) : ∃ c : UInt8, k = (c.toNat : Int) := ⟨UInt8.ofNat k.toNat, by simp; omega⟩
theorem list7 {α : Type} {cs : List α} (h : cs.length = 7) : ∃ c0 c1 c2 c3 c4 c5 c6, cs = [c0, c1, c2, c3, c4, c5, c6] := by
  match cs, h with
  | [c0, c1, c2, c3, c4, c5, c6], _ => exact ⟨c0, c1, c2, c3, c4, c5, c6, rfl⟩
section
variable {H : Type} {enc : TypeId × Value → H} {w : World} {base : Nat} {spare : Nat → Bool} {held : Bool}
theorem opsZ_of {a : Option Addr} {len cap : Nat} {d : DataW H} {p : List MemPlace} (hsp : ∀ b, spare b = true) (h : DataW.Trod enc Try.prog w base spare held 22 (.slice a len cap) d p) : ∃ l, SliceZ w a len l := by
  rcases open_elems (k := 7) Try.underlying22 (by kernel_rfl) (by decide) hsp h with h0 | ⟨b, off, rfl, hl, hm, hi⟩
  · exact ⟨[], .inl h0⟩
  · have key : ∀ i, ∃ o : OpZ, i < len → o.Fits ∧ o.At w b (off + i * 7) := by
      intro i
      by_cases hil : i < len
      · obtain ⟨n, cs, y, hcl, hat, ht⟩ := hi i hil
        obtain ⟨v0, v1, v2, v3, v4, v5, v6, rfl⟩ := list7 hcl
        obtain ⟨y0, y1, y2, y3, m, _, _, t0, t1, t2, t3⟩ := trod_struct4 Try.underlying41 ht
        obtain ⟨z0, z1, z2, z3, m2, _, _, s0, s1, s2, s3⟩ := trod_struct4 Try.underlying39 (trod_cut (l := [v3, v4, v5, v6]) (by kernel_rfl) t3)
        obtain ⟨k0, e0, _, f0⟩ := DataW.trod_int Try.underlying3 (trod_cut (l := [v0]) (by kernel_rfl) t0)
        obtain ⟨k1, e1, _, f1⟩ := DataW.trod_int Try.underlying3 (trod_cut (l := [v1]) (by kernel_rfl) t1)
        obtain ⟨k2, e2, _, f2⟩ := DataW.trod_int Try.underlying3 (trod_cut (l := [v2]) (by kernel_rfl) t2)
        obtain ⟨k3, e3, _, f3⟩ := DataW.trod_int Try.underlying5 (trod_cut (l := [v3]) (by kernel_rfl) s0)
        obtain ⟨k4, e4, _, f4⟩ := DataW.trod_int Try.underlying5 (trod_cut (l := [v4]) (by kernel_rfl) s1)
        obtain ⟨k5, e5, _, f5⟩ := DataW.trod_int Try.underlying5 (trod_cut (l := [v5]) (by kernel_rfl) s2)
        obtain ⟨k6, e6, _, f6⟩ := DataW.trod_int Try.underlying5 (trod_cut (l := [v6]) (by kernel_rfl) s3)
        obtain rfl : v0 = .int .i64 k0 := List.head_eq_of_cons_eq e0
        obtain rfl : v1 = .int .i64 k1 := List.head_eq_of_cons_eq e1
        obtain rfl : v2 = .int .i64 k2 := List.head_eq_of_cons_eq e2
        obtain rfl : v3 = .int .u8 k3 := List.head_eq_of_cons_eq e3
        obtain rfl : v4 = .int .u8 k4 := List.head_eq_of_cons_eq e4
        obtain rfl : v5 = .int .u8 k5 := List.head_eq_of_cons_eq e5
        obtain rfl : v6 = .int .u8 k6 := List.head_eq_of_cons_eq e6
        obtain ⟨x3, rfl⟩ := byteOf (bounds_u8 f3)
        obtain ⟨x4, rfl⟩ := byteOf (bounds_u8 f4)
        obtain ⟨x5, rfl⟩ := byteOf (bounds_u8 f5)
        obtain ⟨x6, rfl⟩ := byteOf (bounds_u8 f6)
        exact ⟨⟨k0, k1, k2, ⟨x3, x4, x5, x6⟩⟩, fun _ => ⟨⟨bounds_i64 f0, bounds_i64 f1, bounds_i64 f2⟩, ⟨hat 0 (by omega), hat 1 (by omega), hat 2 (by omega), hat 3 (by omega), hat 4 (by omega), hat 5 (by omega), hat 6 (by omega)⟩⟩⟩
      · exact ⟨noOpZ, fun h => absurd h hil⟩
    obtain ⟨f, hf⟩ := Classical.axiomOfChoice key
    have hg : ∀ i, i < len → ((List.range len).map f).getD i noOpZ = f i := fun i hi => by
      simp [List.getD_eq_getElem?_getD, hi]
    refine ⟨(List.range len).map f, .inr ⟨b, off, rfl, by omega, by simp, fun i hi => ?_⟩⟩
    rw [hg i hi]
    exact hf i hi
end
end Go.Proofs.Ytfgcbhcfekonnaa
