/- The raster's calls, each as a step of 'one'. -/
import Derived.Test.YtfgcbhcfekonnaaRasOne
namespace Go.Proofs.Ytfgcbhcfekonnaa
open Go.RowKit
set_option linter.unusedVariables false
set_option linter.unusedSimpArgs false

structure Dim (W H n : Nat) (L : List Qc) : Prop where
  n_ : n = L.length
  l_ : L.length = H * W
  w1 : 1 ≤ W
  w7 : W ≤ 7
  h1 : 1 ≤ H
  h7 : H ≤ 7
section
variable {w w' w0 : World} {m r g b d : Nat} {W H : Nat} {q n c q' n' c' : Nat} {o o' o2 o3 : Bool} {L L2 L3 : List Qc} {K XX YY : Int} {qc : Qc} {y y' : Led} {S : List Nat}
theorem Dim.le {W H n : Nat} {L : List Qc} (D : Dim W H n L) : L.length ≤ 49 := by rw [D.l_]; exact Nat.mul_le_mul D.h7 D.w7
theorem Dim.flatl {W H n : Nat} {L : List Qc} (D : Dim W H n L) : (flat L).length = 4 * L.length ∧ (flat L).length ≤ 196 := by have := D.le; rw [flat_len]; omega
theorem Dim.at_ {W H n X Y : Nat} {L : List Qc} (D : Dim W H n L) (hX : X < W) (hY : Y < H) : Y * W + X < L.length ∧ Y * W ≤ 49 := by
  have h1 := row_in (n := W) hY
  have := D.le
  have h2 := D.l_
  constructor <;> omega
theorem Dim.set {W H n i : Nat} {L : List Qc} (D : Dim W H n L) (qc : Qc) : Dim W H n (L.set i qc) := ⟨by rw [List.length_set]; exact D.n_, by rw [List.length_set]; exact D.l_, D.w1, D.w7, D.h1, D.h7⟩
theorem Dim.flip {W H n : Nat} {L : List Qc} (D : Dim W H n L) (rows : Bool) : Dim W H n (flipQ L W H rows n) := ⟨by rw [flipQ_len], by rw [flipQ_len, D.n_, D.l_], D.w1, D.w7, D.h1, D.h7⟩
theorem r_set_yes {X Y : Nat} {k p s : Int} (Q : OneR w m r g b d W H q n c o L3 K XX YY qc true L (LR k p s)) (hI : Ins r g b d q m) (D : Dim W H n L) (hX : X < W) (hY : Y < H) (hk0 : 0 ≤ k) (hk1 : k ≤ p) (hp : p ≤ 196) (hs : 0 ≤ s) (hs1 : s + 1 ≤ 100000) (qd : Qc) :
    Calls Try.prog 42 #[.pointer (some ⟨r, 0, none⟩), .int .i64 (X : Int), .int .i64 (Y : Int), .agg #[.int .u8 (qd.r.toNat : Int), .int .u8 (qd.g.toNat : Int), .int .u8 (qd.b.toNat : Int), .int .u8 (qd.a.toNat : Int)]] w fun e w' => e = .returned (.bool true) ∧ OneR w' m r g b d W H q n c o L3 K XX YY qc true (L.set (Y * W + X) qd) (LR k p (s + 1)) ∧ Turn [r, b, g, d] w w' := by
  obtain ⟨h1, h2, h3, h4, h5⟩ := hI
  obtain ⟨a1, a2⟩ := D.at_ hX hY
  obtain ⟨f1, f2⟩ := D.flatl
  have hM := Q.M rfl
  have hrg : r ≠ g := Blk.ne_ Q.A Q.G (by decide)
  have hrd : r ≠ d := Blk.ne_ Q.A hM.row (by decide)
  refine (rasSet_yes (c0 := qd.r) (c1 := qd.g) (c2 := qd.b) (c3 := qd.a) Q.A hM Q.G (LR.ok hk0 hk1 hp hs (by omega)) (lr_work (by omega) hs1) hX hY rfl rfl (by omega) (by have := D.w7; omega) (by have := D.h7; omega) (by omega) (by omega)).mono ?_
  rintro e w' ⟨rfl, m1, l1, t1⟩
  rw [flat_set _ a1] at m1
  simp only [List.mem_cons, List.not_mem_nil, or_false, not_or] at h5
  have t2 : Turn [r, b, g, d] w w' := t1.mono (by simp)
  exact ⟨rfl, Q.turn t1 (by simp; omega) (by simp; omega) (Blk.turn Q.A t1 (by simp; omega)) (fun _ => m1) l1, t2⟩
theorem r_rows_yes {u : Nat} {k p s : Int} (Q : OneR w m r g b d W H q n c o L3 K XX YY qc true L (LR k p s)) (hI : Ins r g b d q m) (D : Dim W H n L) (hu : H / 2 * W = u) (hk0 : 0 ≤ k) (hk1 : k ≤ p) (hp : p ≤ 196) (hs : 0 ≤ s) (hs1 : s + u ≤ 100000) :
    Calls Try.prog 48 #[.pointer (some ⟨r, 0, none⟩)] w fun e w' => e = .returned (.bool true) ∧ OneR w' m r g b d W H q n c o L3 K XX YY qc true (flipQ L W H true n) (LR k p (s + u)) ∧ Turn [r, b, g, d] w w' := by
  obtain ⟨h1, h2, h3, h4, h5⟩ := hI
  obtain ⟨f1, f2⟩ := D.flatl
  have hM := Q.M rfl
  refine (rasFlipRows_yes Q.A hM Q.G (LR.ok hk0 hk1 hp hs (by omega)) hu (lr_work (by omega) hs1) (by have := D.w7; omega) (by have := D.h7; omega) (by rw [f1, D.l_, mul4]; omega)).mono ?_
  rintro e w' ⟨mm, rfl, ri, m1, a1, l1, t1⟩
  have e1 := flat_rows ri D.l_
  rw [← D.l_, ← D.n_] at e1
  rw [e1] at m1
  simp only [List.mem_cons, List.not_mem_nil, or_false, not_or] at h5
  have t2 : Turn [r, b, g, d] w w' := t1.mono (by simp)
  exact ⟨rfl, Q.turn t1 (by simp; omega) (by simp; omega) a1 (fun _ => m1) l1, t2⟩
theorem r_cols_yes {u : Nat} {k p s : Int} (Q : OneR w m r g b d W H q n c o L3 K XX YY qc true L (LR k p s)) (hI : Ins r g b d q m) (D : Dim W H n L) (hu : W / 2 * H = u) (hk0 : 0 ≤ k) (hk1 : k ≤ p) (hp : p ≤ 196) (hs : 0 ≤ s) (hs1 : s + u ≤ 100000) :
    Calls Try.prog 50 #[.pointer (some ⟨r, 0, none⟩)] w fun e w' => e = .returned (.bool true) ∧ OneR w' m r g b d W H q n c o L3 K XX YY qc true (flipQ L W H false n) (LR k p (s + u)) ∧ Turn [r, b, g, d] w w' := by
  obtain ⟨h1, h2, h3, h4, h5⟩ := hI
  obtain ⟨f1, f2⟩ := D.flatl
  have hM := Q.M rfl
  refine (rasFlipColumns_yes Q.A hM Q.G (LR.ok hk0 hk1 hp hs (by omega)) hu (lr_work (by omega) hs1) (by have := D.w7; omega) (by have := D.h7; omega) (by rw [f1, D.l_]; omega)).mono ?_
  rintro e w' ⟨mm, rfl, ri, m1, a1, l1, t1⟩
  have e1 := flat_cols ri D.l_
  rw [← D.l_, ← D.n_] at e1
  rw [e1] at m1
  simp only [List.mem_cons, List.not_mem_nil, or_false, not_or] at h5
  have t2 : Turn [r, b, g, d] w w' := t1.mono (by simp)
  exact ⟨rfl, Q.turn t1 (by simp; omega) (by simp; omega) a1 (fun _ => m1) l1, t2⟩
theorem r_get_yes {X Y : Nat} {qd : Qc} (Q : OneR w m r g b d W H q n c o L3 K XX YY qc true L y) (D : Dim W H n L) (hX : X < W) (hY : Y < H) (hq : L[Y * W + X]? = some qd) :
    Calls Try.prog 45 #[.pointer (some ⟨r, 0, none⟩), .int .i64 (X : Int), .int .i64 (Y : Int)] w fun e w' => e = .returned (.tuple #[.agg #[.int .u8 (qd.r.toNat : Int), .int .u8 (qd.g.toNat : Int), .int .u8 (qd.b.toNat : Int), .int .u8 (qd.a.toNat : Int)], .bool true]) ∧ Below w.heap.size w w' := by
  obtain ⟨a1, a2⟩ := D.at_ hX hY
  obtain ⟨f1, f2⟩ := D.flatl
  have hfl := flat_at L (Y * W + X) qd hq []
  rw [List.append_nil] at hfl
  exact rasGet_yes Q.A (Q.M rfl) hX hY rfl rfl (by omega) (by have := D.w7; omega) (by have := D.h7; omega) (by omega) (by omega) hfl
theorem r_row_yes {Y : Nat} (Q : OneR w m r g b d W H q n c o L3 K XX YY qc true L y) (D : Dim W H n L) (hY : Y < H) :
    Calls Try.prog 46 #[.pointer (some ⟨r, 0, none⟩), .int .i64 (Y : Int)] w fun e w' => e = .returned (.tuple #[.string (strOf (flat ((L.drop (Y * W)).take W))), .bool true]) ∧ Below w.heap.size w w' := by
  have h1 := row_in (n := W) hY
  obtain ⟨a1, a2⟩ := D.at_ (X := 0) (by have := D.w1; omega) hY
  obtain ⟨f1, f2⟩ := D.flatl
  have hl := D.l_
  refine (rasRow_yes Q.A (Q.M rfl) (by have := D.w1; omega) hY rfl rfl (by omega) (by have := D.w7; omega) (by have := D.h7; omega) (by omega) (by omega)).mono ?_
  rintro e w' ⟨rfl, k, rfl⟩
  exact ⟨by rw [flat_cut (by omega)], below_drewN (Below.refl _ _) k⟩
theorem r_free_yes {k p s : Int} (Q : OneR w m r g b d W H q n c o L3 K XX YY qc true L (LR k p s)) (hI : Ins r g b d q m) (D : Dim W H n L) (hk : k = 4 * (n : Int)) (hk1 : k ≤ p) (hp : p ≤ 196) (hs : 0 ≤ s) (hs1 : s ≤ 100000) :
    Calls Try.prog 53 #[.pointer (some ⟨r, 0, none⟩)] w fun e w' => e = .returned (.bool true) ∧ OneR w' m r g b d W H q n c o L3 K XX YY qc false L (LR 0 p s) ∧ Turn [r, b, g, d] w w' := by
  obtain ⟨h1, h2, h3, h4, h5⟩ := hI
  obtain ⟨f1, f2⟩ := D.flatl
  have hn := D.n_
  have hg := lr_give (k := k) (p := p) (s := s) (n := ((flat L).length : Int)) (by omega) (by omega)
  rw [show k - ((flat L).length : Int) = 0 by omega] at hg
  refine (rasFree_yes Q.A (Q.M rfl) Q.G (LR.ok (by omega) hk1 hp hs hs1) hg).mono ?_
  rintro e w' ⟨rfl, a1, m1, l1, t1⟩
  simp only [List.mem_cons, List.not_mem_nil, or_false, not_or] at h5
  exact ⟨rfl, Q.turn t1 (by simp; omega) (by simp; omega) a1 (fun e => absurd e (by decide)) l1, t1.mono (by simp)⟩
theorem r_image_yes (Q : OneR w m r g b d W H q n c o L3 K XX YY qc true L y) (hI : Ins r g b d q m) (D : Dim W H n L) :
    Calls Try.prog 51 #[.pointer (some ⟨r, 0, none⟩)] w fun e w' => e = .returned (.tuple #[.agg #[.int .i64 (W : Int), .int .i64 (H : Int), .slice (some ⟨d, 0, none⟩) (4 * n) (4 * n)], .bool true]) ∧ OneR w' m r g b d W H q n c o L3 K XX YY qc false L y ∧ BytesAt w' (some ⟨d, 0, none⟩) (4 * n) (flat L) ∧ Turn [r, b, g, d] w w' := by
  obtain ⟨h1, h2, h3, h4, h5⟩ := hI
  obtain ⟨f1, f2⟩ := D.flatl
  have hn := D.n_
  have hM := Q.M rfl
  have hrg : r ≠ g := Blk.ne_ Q.A Q.G (by decide)
  have hbg := hM.bg Q.G
  refine (rasImage_yes Q.A hM).mono ?_
  rintro e w' ⟨rfl, a1, m1, d1, t1⟩
  simp only [List.mem_cons, List.not_mem_nil, or_false, not_or] at h5
  have e4 : (flat L).length = 4 * n := by omega
  refine ⟨by rw [e4], Q.turn t1 (by simp; omega) (by simp; omega) a1 (fun e => absurd e (by decide)) (Blk.turn Q.G t1 (by simp; omega)), ⟨by omega, .inr ⟨d, 0, rfl, fun j hj => ?_⟩⟩, t1.mono (by simp)⟩
  rw [Nat.zero_add, Blk.cell d1 j]
  simp [C8, List.getElem?_eq_getElem hj]
/-- the results' box written, of other pixels than x's -/
theorem OneR.fin2 (Q : OneR w m r g b d W H q n c o L3 K XX YY qc o2 L y) (T : Turn [r, b, g, d] w0 w) (hr : r < m) (hg : g < m) (hb : b < m) (hd : d < m) (hQ : QAt w q' 0 L) (hq : q' ∉ [r, b, g, d]) (hq2 : q' ≠ m + 2) (hn : w0.heap.size ≤ m) :
    RB (stR w (m + 2) (W : Int) (H : Int) q' n c' o') (m + 2) (W : Int) (H : Int) q' n c' o' ∧ OneEndR w0 (stR w (m + 2) (W : Int) (H : Int) q' n c' o') r g b d W H q' o2 L y :=
  ⟨RZ.stR Q.R, Blk.stR Q.A (by omega), fun e => ⟨Blk.stR (Q.M e).blk (by omega), Blk.stR (Q.M e).row (by omega)⟩, Blk.stR Q.G (by omega), hQ.stR hq2, hq, T.stR (.inr (by omega))⟩
end
end Go.Proofs.Ytfgcbhcfekonnaa
