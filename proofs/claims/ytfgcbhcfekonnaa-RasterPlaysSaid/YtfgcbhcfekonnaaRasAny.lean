/- One call of both, of any kind. -/
import Derived.Test.YtfgcbhcfekonnaaRasOneA
import Derived.Test.YtfgcbhcfekonnaaRasOneB
import Derived.Test.YtfgcbhcfekonnaaRasOneC
import Derived.Test.YtfgcbhcfekonnaaRasOneD
import Derived.Test.YtfgcbhcfekonnaaRasOneE
import Derived.Test.YtfgcbhcfekonnaaRasOneF
import Derived.Test.YtfgcbhcfekonnaaRasOneH
import Derived.Test.YtfgcbhcfekonnaaRasOneI
namespace Go.Proofs.Ytfgcbhcfekonnaa
open Go.RowKit
set_option linter.unusedVariables false
set_option linter.unusedSimpArgs false

/-- the raster, the ledger and the document's pixels, side by side -/
structure RSt (w : World) (r g b d W H q n c : Nat) (o : Bool) (L : List Qc) (k p s : Int) : Prop where
  A : RasAt w r g b (W : Int) (H : Int) o
  M : o = true → BufAt w b g d (flat L)
  G : LedAt w g (LR k p s)
  Q : QAt w q 0 L
  D : Dim W H n L
  nc : n ≤ c
  k0 : 0 ≤ k
  k1 : k ≤ p
  p1 : p ≤ 196
  s0 : 0 ≤ s
  ko : o = true → k = 4 * (n : Int)
  qn : q ∉ [r, b, g, d]
section
variable {w w' : World} {r g b d W H q n c : Nat} {o : Bool} {L : List Qc} {k p s : Int}
theorem RSt.qlt (h : RSt w r g b d W H q n c o L k p s) : q < w.heap.size := by
  have h1 : 1 ≤ L.length := by rw [h.D.l_]; exact Nat.mul_le_mul h.D.h1 h.D.w1
  obtain ⟨c0, _⟩ := h.Q 0 _ (List.getElem?_eq_getElem (show 0 < L.length by omega))
  exact World.block_lt_of_cell? w _ c0
theorem RSt.rlt (h : RSt w r g b d W H q n c o L k p s) : r < w.heap.size := Blk.lt h.A
theorem RSt.glt (h : RSt w r g b d W H q n c o L k p s) : g < w.heap.size := Blk.lt h.G
theorem RSt.below (h : RSt w r g b d W H q n c o L k p s) (hb : Below w.heap.size w w') : RSt w' r g b d W H q n c o L k p s :=
  ⟨Blk.below h.A hb (Blk.lt h.A), fun e => ⟨Blk.below (h.M e).blk hb (Blk.lt (h.M e).blk), Blk.below (h.M e).row hb (Blk.lt (h.M e).row)⟩, Blk.below h.G hb (Blk.lt h.G), h.Q.below' hb, h.D, h.nc, h.k0, h.k1, h.p1, h.s0, h.ko, h.qn⟩
theorem RSt.drew (h : RSt w r g b d W H q n c o L k p s) : RSt w.drew r g b d W H q n c o L k p s := h.below ((Below.refl _ _).drew)
theorem RSt.alloc (h : RSt w r g b d W H q n c o L k p s) (ob : Obj) : RSt (w.alloc ob) r g b d W H q n c o L k p s := h.below ((Below.refl _ _).alloc (Nat.le_refl _) _)
theorem RSt.stR {z : Nat} {W' H' : Int} {q' n' c' : Nat} {o' : Bool} (h : RSt w r g b d W H q n c o L k p s) (hr : r ≠ z) (hb : b ≠ z) (hg : g ≠ z) (hd : d ≠ z) (hq : q ≠ z) : RSt (stR w z W' H' q' n' c' o') r g b d W H q n c o L k p s :=
  ⟨Blk.stR h.A hr, fun e => ⟨Blk.stR (h.M e).blk hb, Blk.stR (h.M e).row hd⟩, Blk.stR h.G hg, h.Q.stR hq, h.D, h.nc, h.k0, h.k1, h.p1, h.s0, h.ko, h.qn⟩
theorem RSt.of_end {q2 c2 : Nat} {o2 : Bool} {L2 : List Qc} {k2 s2 : Int} (h : OneEndR w w' r g b d W H q2 o2 L2 (LR k2 p s2)) (D : Dim W H n L2) (nc : n ≤ c2) (k0 : 0 ≤ k2) (k1 : k2 ≤ p) (p1 : p ≤ 196) (s0 : 0 ≤ s2) (ko : o2 = true → k2 = 4 * (n : Int)) : RSt w' r g b d W H q2 n c2 o2 L2 k2 p s2 :=
  ⟨h.1, h.2.1, h.2.2.1, h.2.2.2.1, D, nc, k0, k1, p1, s0, ko, h.2.2.2.2.1⟩
def OnePostR (w : World) (r g b d W H n : Nat) (p s : Int) (e : Ending) (w' : World) : Prop :=
  ∃ (q' c' : Nat) (o' : Bool) (L' : List Qc) (k' s' : Int), e = .returned (.tuple #[.agg (refC (W : Int) (H : Int) q' n c' o'), .int .i64 s', .bool true]) ∧ RSt w' r g b d W H q' n c' o' L' k' p s' ∧ s ≤ s' ∧ s' ≤ s + 21 ∧ Turn [r, b, g, d] w w'
theorem one7_any {K X Y : Int} {qc : Qc} (h : RSt w r g b d W H q n c o L k p s) (hb : b < w.heap.size) (hd : d < w.heap.size) (hs : s ≤ 99000) :
    Calls Try.prog 14 #[.pointer (some ⟨r, 0, none⟩), .agg (refC (W : Int) (H : Int) q n c o), .agg (opR K X Y qc), .pointer (some ⟨g, 0, none⟩), .int .i64 s] w (OnePostR w r g b d W H n p s) := by
  have hI : Ins r g b d q w.heap.size := ⟨h.rlt, h.glt, hb, hd, h.qn⟩
  have hq := h.qlt
  have same : ∀ {e : Ending} {w' : World} {o2 : Bool} {k2 : Int}, (0 ≤ k2 ∧ k2 ≤ p ∧ (o2 = true → k2 = 4 * (n : Int))) → e = .returned (.tuple #[.agg (refC (W : Int) (H : Int) q n c o2), .int .i64 s, .bool true]) ∧ OneEndR w w' r g b d W H q o2 L (LR k2 p s) → OnePostR w r g b d W H n p s e w' := by
    rintro e w' o2 k2 ⟨k0, k1, ko⟩ ⟨rfl, q⟩
    exact ⟨_, _, _, _, _, s, rfl, RSt.of_end q h.D h.nc k0 k1 h.p1 h.s0 ko, by omega, by omega, q.2.2.2.2.2⟩
  have hk := And.intro h.k0 (And.intro h.k1 h.ko)
  have more : ∀ {e : Ending} {w' : World} {L2 : List Qc} {u : Nat}, o = true → Dim W H n L2 → u ≤ 21 → (∃ q' c', e = .returned (.tuple #[.agg (refC (W : Int) (H : Int) q' n c' true), .int .i64 (s + (u : Int)), .bool true]) ∧ n ≤ c' ∧ OneEndR w w' r g b d W H q' true L2 (LR k p (s + (u : Int)))) → OnePostR w r g b d W H n p s e w' := by
    rintro e w' L2 u ho D2 hu ⟨q', c', rfl, hc, q⟩
    have hs0 := h.s0
    exact ⟨_, _, _, _, _, _, rfl, RSt.of_end q D2 hc h.k0 h.k1 h.p1 (by omega) (fun _ => h.ko ho), by omega, by omega, q.2.2.2.2.2⟩
  by_cases e1 : K = 1
  · subst e1
    by_cases hp : IsP (W : Int) (H : Int) o X Y
    · obtain ⟨rfl, x0, x1, y0, y1⟩ := hp
      obtain ⟨X, rfl⟩ := Int.eq_ofNat_of_zero_le x0
      obtain ⟨Y, rfl⟩ := Int.eq_ofNat_of_zero_le y0
      exact (one7_set_yes (o := true) h.D hI hq h.A h.M h.G h.Q h.nc (by omega) (by omega) h.k0 h.k1 h.p1 h.s0 hs).mono fun e w' q => more (u := 1) rfl (h.D.set _) (by omega) q
    · exact (one7_set_no h.D hI hq h.A h.M h.G h.Q h.nc hp).mono fun e w' q => same hk q
  by_cases e2 : K = 2
  · subst e2
    by_cases hp : IsP (W : Int) (H : Int) o X Y
    · obtain ⟨rfl, x0, x1, y0, y1⟩ := hp
      obtain ⟨X, rfl⟩ := Int.eq_ofNat_of_zero_le x0
      obtain ⟨Y, rfl⟩ := Int.eq_ofNat_of_zero_le y0
      exact (one7_get_yes (o := true) h.D hI hq h.A h.M h.G h.Q h.nc (by omega) (by omega)).mono fun e w' q => same hk q
    · exact (one7_get_no h.D hI hq h.A h.M h.G h.Q h.nc hp).mono fun e w' q => same hk q
  by_cases e3 : K = 3
  · subst e3
    by_cases hp : IsP (W : Int) (H : Int) o 0 Y
    · obtain ⟨rfl, x0, x1, y0, y1⟩ := hp
      obtain ⟨Y, rfl⟩ := Int.eq_ofNat_of_zero_le y0
      exact (one7_row_yes (o := true) h.D hI hq h.A h.M h.G h.Q h.nc (by omega)).mono fun e w' q => same hk q
    · exact (one7_row_no h.D hI hq h.A h.M h.G h.Q h.nc hp).mono fun e w' q => same hk q
  have hw7 := h.D.w7
  have hh7 := h.D.h7
  by_cases e4 : K = 4
  · subst e4
    cases o
    · exact (one7_rows_no (o := false) h.D hI hq h.A h.M h.G h.Q h.nc).mono fun e w' q => same hk q
    · exact (one7_rows_yes (o := true) (u := H / 2 * W) h.D hI hq h.A h.M h.G h.Q h.nc rfl h.k0 h.k1 h.p1 h.s0 hs).mono fun e w' q => more rfl (h.D.flip _) (Nat.mul_le_mul (show H / 2 ≤ 3 by omega) hw7) q
  by_cases e5 : K = 5
  · subst e5
    cases o
    · exact (one7_cols_no (o := false) h.D hI hq h.A h.M h.G h.Q h.nc).mono fun e w' q => same hk q
    · exact (one7_cols_yes (o := true) (u := W / 2 * H) h.D hI hq h.A h.M h.G h.Q h.nc rfl h.k0 h.k1 h.p1 h.s0 hs).mono fun e w' q => more rfl (h.D.flip _) (Nat.mul_le_mul (show W / 2 ≤ 3 by omega) hh7) q
  by_cases e6 : K = 6
  · subst e6
    cases o
    · exact (one7_image_no (o := false) h.D hI hq h.A h.M h.G h.Q h.nc).mono fun e w' q => same hk q
    · exact (one7_image_yes (o := true) h.D hI hq h.A h.M h.G h.Q h.nc).mono fun e w' q => same ⟨h.k0, h.k1, fun e => absurd e (by decide)⟩ q
  by_cases e7 : K = 7
  · subst e7
    cases o
    · exact (one7_free_no (o := false) h.D hI hq h.A h.M h.G h.Q h.nc).mono fun e w' q => same hk q
    · have hp0 := h.k0
      have hp1 := h.k1
      exact (one7_free_yes (o := true) h.D hI hq h.A h.M h.G h.Q h.nc (h.ko rfl) h.k1 h.p1 h.s0 (by omega)).mono fun e w' q => same ⟨by omega, by omega, fun e => absurd e (by decide)⟩ q
  exact (one7_else h.D hI hq h.A h.M h.G h.Q h.nc e1 e2 e3 e4 e5 e6 e7).mono fun e w' q => same hk q
end
end Go.Proofs.Ytfgcbhcfekonnaa
