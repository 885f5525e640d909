/- tgahead.Bytes: two bytes are put. -/
import Derived.Test.YtccldalagbfmhaaGreatKBits
import Derived.Test.YtccldalagbfmhaaGreatKSync
import Derived.Deep.RegionHeld3
import Derived.BigRegion
namespace Go.Proofs.YtccldalagbfmhaaGreat
open Go.RowKit
set_option linter.unusedVariables false
set_option linter.unusedSimpArgs false

theorem tgaByPut {w : World} {k kb i j : Nat} {v : Nat} {cs : Array Value} (K : Blk w kb 27 #[.slice (some ⟨k, 0, none⟩) 18 18]) (B : Blk w k 5 cs) (hcs : cs.size = 18) (hj : i + 1 = j) (hi : j < 18) (hv : v ≤ 65535) :
    Calls Tryz.prog 182 #[.int .i64 (i : Int), .int .i64 (v : Int), .pointer (some ⟨kb, 0, none⟩)] w fun e w' => e = .returned (.tuple #[]) ∧ Blk w' k 5 ((cs.setIfInBounds i (.int .u8 ((v % 256 : Nat) : Int))).setIfInBounds j (.int .u8 ((v / 256 : Nat) : Int))) ∧ Turn [k] w w' := by
  have c0 : w.cell? ⟨kb, 0, none⟩ = some (.slice (some ⟨k, 0, none⟩) 18 18) := Blk.cell K 0
  have x0 : w.cell? ⟨k, i, none⟩ = cs[i]? := Blk.cell B i
  have x1 : w.cell? ⟨k, j, none⟩ = cs[j]? := Blk.cell B j
  have f0 : w.frozen? ⟨k, i, none⟩ = false := Blk.frozen B i
  have f1 : w.frozen? ⟨k, j, none⟩ = false := Blk.frozen B j
  have hk := Blk.lt B
  obtain ⟨u0, h0⟩ : ∃ u, cs[i]? = some u := ⟨_, Array.getElem?_eq_getElem (by omega)⟩
  obtain ⟨u1, h1⟩ : ∃ u, cs[j]? = some u := ⟨_, Array.getElem?_eq_getElem (by omega)⟩
  rw [h0] at x0
  rw [h1] at x1
  have hiI : (i : Int) < 18 := by omega
  have hjI : (j : Int) < 18 := by omega
  have hjI' : (i : Int) + 1 = (j : Int) := by omega
  have hij : i ≠ j := by omega
  have hji : j ≠ i := by omega
  have wj : IntKind.i64.wrap (j : Int) = (j : Int) := IntWalk.i64_in _ (by omega)
  have hkb : k ≠ kb := Blk.ne_ B K (by decide)
  have hkb' := hkb.symm
  have wv0 : IntKind.u8.wrap (v : Int) = ((v % 256 : Nat) : Int) := by rw [IntKind.wrap_u8]; omega
  have wv1 : IntKind.u8.wrap ((v : Int) / 256) = ((v / 256 : Nat) : Int) := by rw [IntKind.wrap_u8]; omega
  have HB := Lib.hid B
  have HV := Lib.hid hv
  clear wv0 wv1 hv
  clear h0 h1 K B hcs hj
  go_enter Tryz.func182, Tryz.ntmps182
  go_region
  all_goals go_end0
  have wv0' : ((v : Int) % 256) = ((v % 256 : Nat) : Int) := by have := HV.out; omega
  have wv1' : ((v : Int) / 256 % 256) = ((v / 256 : Nat) : Int) := by have := HV.out; omega
  exact ⟨rfl, (Blk.drew (Blk.set_ (Blk.set_ HB.out i _) j _)).eq_ (by rw [wv0', wv1']), (((Turn.refl _ _).set_ i _ (by simp)).set_ j _ (by simp)).drew⟩
end Go.Proofs.YtccldalagbfmhaaGreat
