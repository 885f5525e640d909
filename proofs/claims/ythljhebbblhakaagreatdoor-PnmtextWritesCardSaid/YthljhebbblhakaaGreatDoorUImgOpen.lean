/- Arguments opened: an image by value. -/
import Derived.Test.YthljhebbblhakaaGreatDoorEWords
import Derived.Test.YthljhebbblhakaaGreatDoorProg
import Derived.WalkKit
import Derived.WalkSpells
import Derived.WalkLawsBesides
import Derived.Lib.Hide
import Derived.Laws.OwnMore
import Derived.Deep.AppendLies
import Derived.Deep.Draws
import Derived.Deep.Onto
import Derived.Deep.AppendSrc
import Derived.Deep.QuietTactic
import Derived.BigQuiet
import Derived.Deep.LoopGhost
import Derived.Deep.CutBlock
import Derived.Deep.DeepCutAuto
import Derived.Deep.Light
import Derived.Deep.RegionWith
import Derived.Test.YthljhebbblhakaaGreatDoorESync
import Derived.Defers
import Derived.Laws.Pointers
import Derived.Laws.LoneSync
import Derived.Laws.NewBlocks
import Derived.RegionTactic
import Derived.RegionCalls
import Derived.ChangeAlike
import Derived.Laws.Rows
import Derived.StillTailTactics
import Derived.Test.YthljhebbblhakaaGreatDoorEPnmBst
import Derived.Deep.OwnRows
import Derived.Test.YthljhebbblhakaaGreatDoorENum
import Derived.Lib.Mul64
import Derived.Laws.Bits64b
import Derived.Test.YthljhebbblhakaaGreatDoorEBuf
import Derived.Lib.BufferWrite
import Derived.Test.YthljhebbblhakaaGreatDoorERas
import Derived.Test.YthljhebbblhakaaGreatDoorEFfRef3
import Derived.ArgAppend
import Derived.Lib.SlBytesConst
import Derived.Deep.RegionLaw
import Derived.Deep.RegionHeld3
import Derived.Test.YthljhebbblhakaaGreatDoorEBits
import Derived.Laws.BitsAllLaws
import Derived.Laws.BitsLemmas
import Derived.Test.YthljhebbblhakaaGreatDoorEPnmHead
import Derived.Test.YthljhebbblhakaaGreatDoorEPnmW
import Derived.Test.YthljhebbblhakaaGreatDoorEOpenInts
import Derived.ProofKit
import Derived.OpenShut
import Derived.Deep.Slices
import Derived.Test.YthljhebbblhakaaGreatDoorEScaler
import Derived.Test.YthljhebbblhakaaGreatDoorUFfD
import Derived.Test.YthljhebbblhakaaGreatDoorEFfM
import Derived.Lib.ConvBytes
import Derived.Lib.SliceRun
import Derived.BigRegion
import Derived.Deep.Fields
import Derived.ChangeSame
import Derived.Lib.SmallJoins
import Derived.Test.YthljhebbblhakaaGreatDoorUPnmOpen
namespace Go.Proofs.YthljhebbblhakaaGreatDoor
open Go.ChangeShapes Go.WideShapes Go.Deep Go.RowKit Go.Joins
set_option linter.unusedVariables false
section
variable {H : Type} {enc : TypeId × Value → H} {w : World} {base : Nat} {spare : Nat → Bool} {held : Bool}
theorem imgArray3 {α : Type} {cs : Array α} (h : cs.size = 3) : ∃ c0 c1 c2, cs = #[c0, c1, c2] := by
  obtain ⟨l⟩ := cs
  match l, h with
  | [c0, c1, c2], _ => exact ⟨c0, c1, c2, rfl⟩
theorem bytes_ints {a : Option Addr} {n : Nat} {l : List Int} (h : SliceInts .u8 w a n l) : ∃ m, BytesAt w a n m := by
  rcases h with h0 | ⟨b, off, rfl, hm, hl, hc⟩
  · exact ⟨[], h0, .inl h0⟩
  · refine ⟨l.map fun z => UInt8.ofNat z.toNat, by simp [hl], .inr ⟨b, off, rfl, fun j hj => ?_⟩⟩
    rw [List.length_map, hl] at hj
    obtain ⟨hw, hcell⟩ := hc j hj
    have hb := bounds_u8 hw
    rw [hcell]
    have e : (l.map fun z => UInt8.ofNat z.toNat)[j]'(by rw [List.length_map, hl]; exact hj) = UInt8.ofNat (l.getD j 0).toNat := by
      simp [List.getD_eq_getElem?_getD, List.getElem?_eq_getElem (show j < l.length by omega)]
    rw [e]
    have e2 : ((UInt8.ofNat (l.getD j 0).toNat).toNat : Int) = l.getD j 0 := by simp only [UInt8.toNat_ofNat']; omega
    rw [e2]
theorem slice_cap {fuel : Nat} {a : Option Addr} {l c : Nat} {y : DataW H × List MemPlace} (h : DataW.trod enc Tryz.prog w base spare held fuel 22 [.slice a l c] = some y) : l ≤ c ∧ c ≤ maxLen := by
  rcases open_slice1 Tryz.underlying22 (by kernel_rfl) h with ⟨hcs, _⟩ | ⟨a', len', cap', m, n, V, D, Pl, hcs, hb, hl, hm, hmm, hx, hi⟩
  · simp only [List.cons.injEq, Value.slice.injEq] at hcs
    obtain ⟨⟨rfl, rfl, rfl⟩, _⟩ := hcs
    exact ⟨Nat.le_refl _, Nat.zero_le _⟩
  · simp only [List.cons.injEq, Value.slice.injEq] at hcs
    obtain ⟨⟨rfl, rfl, rfl⟩, _⟩ := hcs
    exact ⟨hl, hm⟩
set_option maxRecDepth 100000 in
theorem img_of {r : Reach} {b0 : Nat} {v : Value} {d : DataW H} {p : List MemPlace} (hsp : ∀ b, spare b = true) (hv : Value.okWide Tryz.prog w r b0 24 v) (h : DataW.Trod enc Tryz.prog w base spare held 24 v d p) :
    ∃ (W H : Int) (a : Option Addr) (n c : Nat) (m : List UInt8), (fits5 W ∧ fits5 H ∧ BytesAt w a n m ∧ n ≤ c ∧ c ≤ maxLen) ∧ v = .agg #[.int .i64 W, .int .i64 H, .slice a n c] := by
  obtain ⟨cs, rfl, hsz⟩ := okWide_struct Tryz.underlying24 hv
  obtain ⟨v0, v1, v2, rfl⟩ := imgArray3 (hsz.trans (by kernel_rfl))
  obtain ⟨fuel, hf⟩ := h
  obtain ⟨n, hn⟩ := trod_fields Tryz.underlying24 (by kernel_rfl) hf
  obtain ⟨y0, t0⟩ := hn 0 _ rfl
  obtain ⟨y1, t1⟩ := hn 1 _ rfl
  obtain ⟨y2, t2⟩ := hn 2 _ rfl
  obtain ⟨k0, e0, _, f0⟩ := DataW.trod_int Tryz.underlying3 t0
  obtain ⟨k1, e1, _, f1⟩ := DataW.trod_int Tryz.underlying3 t1
  obtain ⟨a, l, c, e2⟩ := slice_form Tryz.underlying22 t2
  obtain rfl : v0 = .int .i64 k0 := by simpa [Value.cells] using e0
  obtain rfl : v1 = .int .i64 k1 := by simpa [Value.cells] using e1
  obtain rfl : v2 = .slice a l c := by simpa [Value.cells] using e2
  obtain ⟨li, hi⟩ := ints_of Tryz.underlying22 Tryz.underlying5 (by kernel_rfl) hsp ⟨n, t2⟩
  obtain ⟨m, hm⟩ := bytes_ints hi
  have hcap := slice_cap (by simpa [Value.cells] using t2)
  exact ⟨k0, k1, a, l, c, m, ⟨bounds_i64 f0, bounds_i64 f1, hm, hcap.1, hcap.2⟩, rfl⟩
end
end Go.Proofs.YthljhebbblhakaaGreatDoor
