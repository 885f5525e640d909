/- Plain: a farbfeld file, as a decoder takes it. Arguments opened: slices of integers. -/
import Derived.Test.YthljhebbblhakaaGreatDoorEPnmHead
import Derived.Test.YthljhebbblhakaaGreatDoorEPnmBst
import Derived.Test.YthljhebbblhakaaGreatDoorProg
import Derived.ProofKit
import Derived.OpenShut
import Derived.Deep.Slices
namespace Go.Proofs.YthljhebbblhakaaGreatDoor
set_option linter.unusedVariables false

/-- a sample of a pixel -/
def ffU (s : ByteArray) (i : Nat) : UInt8 := UInt8.ofNat (sround (beN s i 2 : Int) 65535).toNat
def ffQ (s : ByteArray) (k : Nat) : List UInt8 := [ffU s (16 + 8 * k), ffU s (16 + 8 * k + 2), ffU s (16 + 8 * k + 4), ffU s (16 + 8 * k + 6)]
def ffBytes (s : ByteArray) : Nat → List UInt8
  | 0 => []
  | n + 1 => ffBytes s n ++ ffQ s n
theorem ffBytes_len (s : ByteArray) (n : Nat) : (ffBytes s n).length = 4 * n := by
  induction n with
  | zero => rfl
  | succ n ih => unfold ffBytes; rw [List.length_append, ih]; simp [ffQ]; omega
end Go.Proofs.YthljhebbblhakaaGreatDoor
namespace Go.Proofs.YthljhebbblhakaaGreatDoor
open Go.ChangeShapes Go.WideShapes Go.Deep Go.RowKit
set_option linter.unusedVariables false

/-- empty, or a row of ints of the kind -/
def SliceInts (k : IntKind) (w : World) (a : Option Addr) (n : Nat) (l : List Int) : Prop :=
  n = 0 ∨ ∃ b off, a = some ⟨b, off, none⟩ ∧ n ≤ maxLen ∧ l.length = n ∧ ∀ i, i < n → (Lit.int k (l.getD i 0)).wf = true ∧ w.cell? ⟨b, off + i, none⟩ = some (.int k (l.getD i 0))

section
variable {H : Type} {enc : TypeId × Value → H} {P : Program} {w : World} {base : Nat} {spare : Nat → Bool} {held : Bool}
theorem ints_of {t e : TypeId} {k : IntKind} {a : Option Addr} {len cap : Nat} {d : DataW H} {p : List MemPlace} (ht : P.underlying t = some (.slice e)) (he : P.underlying e = some (.int k)) (hc : P.cellsOf e = 1) (hsp : ∀ b, spare b = true)
    (h : DataW.Trod enc P w base spare held t (.slice a len cap) d p) : ∃ l, SliceInts k w a len l := by
  obtain ⟨fuel, hf⟩ := h
  simp only [Value.cells] at hf
  rcases open_slice1 ht hc hf with ⟨hcs, _⟩ | ⟨a', len', cap', m, n, V, D, Pl, hcs, hb, hl, hm, hmm, hx, hi⟩
  · simp only [List.cons.injEq, Value.slice.injEq] at hcs
    exact ⟨[], .inl hcs.1.2.1⟩
  · simp only [List.cons.injEq, Value.slice.injEq] at hcs
    obtain ⟨⟨rfl, rfl, rfl⟩, _⟩ := hcs
    rcases Nat.eq_zero_or_pos len with h0 | hp
    · exact ⟨[], .inl h0⟩
    have hmlen : m = cap := by rw [hmm, hsp, if_pos rfl]
    obtain ⟨b, off, spot⟩ := a'
    have hspot : spot = none := by
      have hc0 := (hi 0 (by omega)).1
      have e : ((⟨b, off, spot⟩ : Addr).add 0) = ⟨b, off, spot⟩ := by simp [Addr.add]
      rw [e] at hc0
      simpa using World.cell?_spot hc0
    subst hspot
    have key : ∀ i, ∃ z : Int, i < len → (Lit.int k z).wf = true ∧ w.cell? ⟨b, off + i, none⟩ = some (.int k z) := by
      intro i
      by_cases hil : i < len
      · obtain ⟨c0, t0⟩ := hi i (by omega)
        obtain ⟨z, e0, _, f0⟩ := DataW.trod_int he t0
        have ev : V i = .int k z := by simpa using e0
        have ea : ((⟨b, off, none⟩ : Addr).add i) = ⟨b, off + i, none⟩ := by
          unfold Addr.add
          split
          · rename_i h; subst h; rfl
          · rfl
        rw [ev, ea] at c0
        exact ⟨z, fun _ => ⟨f0, c0⟩⟩
      · exact ⟨0, fun h => absurd h hil⟩
    obtain ⟨f, hf'⟩ := Classical.axiomOfChoice key
    have hg : ∀ i, i < len → ((List.range len).map f).getD i 0 = f i := fun i hi => by
      simp [List.getD_eq_getElem?_getD, hi]
    refine ⟨(List.range len).map f, .inr ⟨b, off, rfl, by omega, by simp, fun i hi => ?_⟩⟩
    rw [hg i hi]
    exact hf' i hi
end
end Go.Proofs.YthljhebbblhakaaGreatDoor
