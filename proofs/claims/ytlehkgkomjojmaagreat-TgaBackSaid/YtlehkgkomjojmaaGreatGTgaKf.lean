/- tga.Write: the pixels' bytes. -/
import Derived.Test.YtlehkgkomjojmaaGreatGTgaKw
import Derived.Test.YtlehkgkomjojmaaGreatGTgaKm
namespace Go.Proofs.YtlehkgkomjojmaaGreat
open Go.RowKit
set_option linter.unusedVariables false
set_option linter.unusedSimpArgs false

set_option maxRecDepth 100000 in
set_option maxHeartbeats 40000000 in
theorem tgaWrite_in {pk : Bool} {n al : Nat} {lf tp : Bool} {nm : ByteArray} {W H t : Nat} {a : Option Addr} {m c : Nat} {l : List UInt8} (hn : nm.size ≤ 300) (hmay : TgaMay (n : Int) (al : Int) nm.size) (ht : tgaTyp pk (n : Int) = t) (hW : W ≤ 60) (hH : H ≤ 60) (hR : RightP (W : Int) (H : Int) m) (hmc : m ≤ c) (w : World) (hA : BytesAt w a m l) :
  Calls Tryz.prog 23 #[.agg #[.int .i64 (W : Int), .int .i64 (H : Int), .slice a m c], optV pk (n : Int) (al : Int) lf tp nm] w fun e w' => Below w.heap.size w w' ∧ ((e = .returned (.tuple #[.string ⟨#[]⟩, .int .i64 6]) ∧ ¬ (n = 32 ∧ al = 8)) ∨ ∃ s : ByteArray, e = .returned (.tuple #[.string s, .int .i64 0]) ∧ (tgaDec s).told = .img W H l ∧ tgaSides s = (W, H, 0) ∧ s.size ≤ 100000) := by
 obtain ⟨ab, ao, rfl⟩ : ∃ ab ao, a = some ⟨ab, ao, none⟩ := by
  rcases hA.2 with h0 | ⟨ab, ao, h0, _⟩
  ·have h1 := hR.2.2; have h2 := hR.1.1; have h3 := hR.2.1.1; have h4 := Int.mul_pos (show (0 : Int) < 4 * (W : Int) by omega) (show (0 : Int) < (H : Int) by omega); omega
  ·exact ⟨ab, ao, h0⟩
 obtain ⟨u, hu, hua, hub⟩ := and15 (al : Int)
 have hm1 := hmay
 obtain ⟨hc1, hal1, hnm⟩ := hm1
 have hal : al ≤ 8 := by omega
 have hcol : n = 8 ∨ TgaCol n := by unfold TgaCol; omega
 have hw1 : 1 ≤ W := by have := hR.1.1; omega
 have hh1 : 1 ≤ H := by have := hR.2.1.1; omega
 obtain ⟨N, hN⟩ : ∃ N, W * H = N := ⟨_, rfl⟩
 have hNB : N ≤ 3600 := by rw [← hN]; exact Nat.mul_le_mul hW hH
 have hNI : IntKind.i64.wrap ((W : Int) * (H : Int)) = (N : Int) := prod3_in hN (by omega)
 have hm4 : m = 4 * N := by have := hR.2.2; rw [Int.mul_assoc, show (W : Int) * (H : Int) = ((W * H : Nat) : Int) by simp, hN] at this; omega
 have htl : t ≤ 255 := by rw [← ht]; unfold tgaTyp; split <;> split <;> omega
 obtain ⟨x, hx⟩ : ∃ x, u + (if lf then 16 else 0) + (if tp then 32 else 0) = x := ⟨_, rfl⟩
 have hx64 : x < 64 := by rw [← hx]; split <;> split <;> omega
 have hxu : x % 16 = u := by rw [← hx]; split <;> split <;> omega
 have hqn : (n : Int) % 256 = (n : Int) := by omega
 have hmn : ((nm.size : Int) % 256) = ((nm.size % 256 : Nat) : Int) := by omega
 have hiff := tgaRight_iff (b := (n : Int)) (al := (al : Int)) (n := nm.size) (m := nm.size % 256) (q := n) (u := u) (x := x) (W := W) (H := H) (pk := pk) hmn hqn hu hub ⟨hw1, by omega⟩ ⟨hh1, by omega⟩ hx64 hxu
 have HR0 := fun w => optRightC (pk := pk) (b := (n : Int)) (al := (al : Int)) (l := lf) (p := tp) (nm := nm) hn w
 rw [decide_eq_true hmay] at HR0
 have HH0 := fun w => optHeadC (pk := pk) (b := (n : Int)) (al := (al : Int)) (l := lf) (p := tp) (nm := nm) (W := W) (H := H) (a := some ⟨ab, ao, none⟩) (n := m) (c := c) (by omega) (by omega) w
 have hbv : tgaByV (nm.size : Int) (n : Int) (al : Int) (nm.size % 256) (tgaTyp pk (n : Int)) W H n u x = .tuple #[.string (tgaBb (tgaBl (nm.size % 256) (tgaTyp pk (n : Int)) W H n x)), .int .i64 0] := by unfold tgaByV; exact if_pos (hiff.2 hmay)
 have HB0 := fun w => tgaBytesC (n := (nm.size : Int)) (d := (n : Int)) (a := (al : Int)) (m := nm.size % 256) (t := tgaTyp pk (n : Int)) (W := W) (H := H) (q := n) (u := u) (x := x) (l := lf) (p := tp) hmn (by rw [ht]; exact htl) (by omega) (by omega) hqn hua hu hx w
 rw [hbv] at HB0
 have HG := Lib.hid (fun w => right_bool (W := (W : Int)) (H := (H : Int)) (n := m) (b := true) (decide_eq_true hR) (a := some ⟨ab, ao, none⟩) (c := c) w)
 have HPL0 := fun (k X Y : Nat) (h1 : k < W * H) (h2 : (wrHd nm pk n al W H lf tp).col k = X) (h3 : (wrHd nm pk n al W H lf tp).rw k = Y) (w : World) => tgaPlaceC (h := wrHd nm pk n al W H lf tp) h1 hw1 (by show W ≤ 16384; omega) (by show H ≤ 16384; omega) h2 h3 w
 have hhd : tHdV (wrHd nm pk n al W H lf tp) = .agg #[.int .i64 (nm.size : Int), .bool false, .int .i64 (t : Int), .int .i64 0, .int .i64 0, .int .i64 0, .int .i64 (W : Int), .int .i64 (H : Int), .int .i64 (n : Int), .int .i64 (al : Int), .bool lf, .bool tp] := by unfold tHdV wrHd; rw [ht]; rfl
 rw [hhd] at HPL0
 rw [ht] at HH0 HB0
 unfold optV at HR0 HH0 ⊢
 have HR := Lib.hid HR0
 have HH := Lib.hid HH0
 have HB := Lib.hid HB0
 have HPL := Lib.hid HPL0
 have HPX0 := fun (q : Qc) (w : World) => optPxC (q := q) (n := n) (al := al) (pk := pk) (l := lf) (p := tp) (nm := nm) hcol hal w
 unfold optV at HPX0
 have HPX := Lib.hid HPX0
 obtain ⟨j0, hj, hz0, hz1, hz2⟩ := info_parts infoSt
 have hmk : ∀ w : World, (Instr.makeSlice 123 (.int .i64 (N : Int)) (.int .i64 (N : Int))).run Tryz.prog w = .ok (.slice (some ⟨w.heap.size, 0, none⟩) N N) (w.alloc (.cells (madeCells #[.string ⟨#[]⟩] N) 9)) := fun w => by
  have := run_make w 123 9 j0 _ Tryz.underlying123 hj hz0 .i64 .i64 (N : Int) (N : Int) (by omega) (Int.le_refl _) (by rw [hz2]; omega) (by omega)
  rw [hz1, show (Value.string ⟨#[]⟩).cells = #[.string ⟨#[]⟩] from rfl] at this
  simpa using this
 have HNB := Lib.hid hNB
 have HMK := Lib.hid hmk
 have HNI := Lib.hid hNI
 clear hmk hNI
 have HA := Lib.hid hA
 have HQ := Lib.hid (And.intro hR (And.intro hmc (And.intro hm4 (And.intro hN (And.intro hw1 hh1)))))
 generalize hbb : tgaBb (tgaBl (nm.size % 256) t W H n x) = bb at HB
 have hb18 : Hid (bb.size = 18) := Lib.hid (by rw [← hbb]; rfl)
 have HWR := Lib.hid (fun (s : ByteArray) (L : List ByteArray) (hL : L.length = W * H) (hok : WrOk (wrHd nm pk n al W H lf tp) l n al L) (hs : s.data.toList = bb.data.toList ++ nm.data.toList ++ wrBody pk L) => wrTells hmay ⟨hw1, hW⟩ ⟨hh1, hH⟩ hu hub hx ht hbb (by rw [← hA.1, hm4, hN]) hL hok hs)
 have HNM : Hid (nm.size ≤ 300 ∧ (n + 7) / 8 ≤ 4) := Lib.hid ⟨hn, by omega⟩
 clear hbb
 clear hbv HR0 HH0 HB0 HPL0 HPX0 hiff hmay hqn hmn hx64 hxu hx hua hub hu hc1 hal1 hcol hhd hj hz0 hz1 hz2 hR hN hm4 htl hnm hal hn hA
 have HTY := Lib.hid ht
 clear ht
 have I1 : Blk ((w.alloc (.cells #[.int .i64 (W : Int), .int .i64 (H : Int), .slice (some ⟨ab, ao, none⟩) m c] 24)).alloc (.cells #[.bool pk, .int .i64 (n : Int), .int .i64 (al : Int), .bool lf, .bool tp, .string nm] 56)) w.heap.size 24 #[.int .i64 (W : Int), .int .i64 (H : Int), .slice (some ⟨ab, ao, none⟩) m c] := Blk.alloc (Blk.new _ _ _) _
 have O1 : Blk ((w.alloc (.cells #[.int .i64 (W : Int), .int .i64 (H : Int), .slice (some ⟨ab, ao, none⟩) m c] 24)).alloc (.cells #[.bool pk, .int .i64 (n : Int), .int .i64 (al : Int), .bool lf, .bool tp, .string nm] 56)) (w.heap.size + 1) 56 #[.bool pk, .int .i64 (n : Int), .int .i64 (al : Int), .bool lf, .bool tp, .string nm] := Blk.new_at _ _ _ (by simp)
 have A1 : BytesAt ((w.alloc (.cells #[.int .i64 (W : Int), .int .i64 (H : Int), .slice (some ⟨ab, ao, none⟩) m c] 24)).alloc (.cells #[.bool pk, .int .i64 (n : Int), .int .i64 (al : Int), .bool lf, .bool tp, .string nm] 56)) (some ⟨ab, ao, none⟩) m l := (HA.out.alloc _).alloc _
 have B1 : Below w.heap.size w ((w.alloc (.cells #[.int .i64 (W : Int), .int .i64 (H : Int), .slice (some ⟨ab, ao, none⟩) m c] 24)).alloc (.cells #[.bool pk, .int .i64 (n : Int), .int .i64 (al : Int), .bool lf, .bool tp, .string nm] 56)) := ((Below.refl w.heap.size w).alloc (Nat.le_refl _) _).alloc (by simp) _
 go_enter Tryz.func23, Tryz.ntmps23
 go_upto_region 1 with fail
 generalize (w.alloc (.cells #[.int .i64 (W : Int), .int .i64 (H : Int), .slice (some ⟨ab, ao, none⟩) m c] 24)).alloc (.cells #[.bool pk, .int .i64 (n : Int), .int .i64 (al : Int), .bool lf, .bool tp, .string nm] 56) = w1 at I1 O1 A1 B1 ⊢
 have o0 : w1.cell? ⟨w.heap.size + 1, 0, none⟩ = some (.bool pk) := Blk.cell O1 0
 have o1 : w1.cell? ⟨w.heap.size + 1, 1, none⟩ = some (.int .i64 (n : Int)) := Blk.cell O1 1
 have o2 : w1.cell? ⟨w.heap.size + 1, 2, none⟩ = some (.int .i64 (al : Int)) := Blk.cell O1 2
 have o3 : w1.cell? ⟨w.heap.size + 1, 3, none⟩ = some (.bool lf) := Blk.cell O1 3
 have o4 : w1.cell? ⟨w.heap.size + 1, 4, none⟩ = some (.bool tp) := Blk.cell O1 4
 have o5 : w1.cell? ⟨w.heap.size + 1, 5, none⟩ = some (.string nm) := Blk.cell O1 5
 have HK := Lib.hid (And.intro I1 (And.intro O1 (And.intro A1 B1)))
 clear I1 O1 A1 B1
 go_upto_region 3 with (go_at_call 65; refine (HR.out _).mono ?_; rintro e w2 ⟨rfl, b2⟩)
 have I2 : Blk w2 w.heap.size 24 #[.int .i64 (W : Int), .int .i64 (H : Int), .slice (some ⟨ab, ao, none⟩) m c] := Blk.below HK.out.1 b2 (Blk.lt HK.out.1)
 have i0 : w2.cell? ⟨w.heap.size, 0, none⟩ = some (.int .i64 (W : Int)) := Blk.cell I2 0
 have i1 : w2.cell? ⟨w.heap.size, 1, none⟩ = some (.int .i64 (H : Int)) := Blk.cell I2 1
 have i2 : w2.cell? ⟨w.heap.size, 2, none⟩ = some (.slice (some ⟨ab, ao, none⟩) m c) := Blk.cell I2 2
 clear o0 o1 o2 o3 o4 o5 I2
 go_upto_region 5 with (go_at_call 28; refine (HG.out _).mono ?_; rintro e w3 ⟨rfl, b3⟩)
 have b23 := below_next b2 b3
 have I3 : Blk w3 w.heap.size 24 #[.int .i64 (W : Int), .int .i64 (H : Int), .slice (some ⟨ab, ao, none⟩) m c] := Blk.below HK.out.1 b23 (Blk.lt HK.out.1)
 have O3 : Blk w3 (w.heap.size + 1) 56 #[.bool pk, .int .i64 (n : Int), .int .i64 (al : Int), .bool lf, .bool tp, .string nm] := Blk.below HK.out.2.1 b23 (Blk.lt HK.out.2.1)
 have A3 := HK.out.2.2.1.below b23
 have B3 := below_next HK.out.2.2.2 b23
 clear i0 i1 i2 b2 b3 b23 HK
 have i0 : w3.cell? ⟨w.heap.size, 0, none⟩ = some (.int .i64 (W : Int)) := Blk.cell I3 0
 have i1 : w3.cell? ⟨w.heap.size, 1, none⟩ = some (.int .i64 (H : Int)) := Blk.cell I3 1
 have i2 : w3.cell? ⟨w.heap.size, 2, none⟩ = some (.slice (some ⟨ab, ao, none⟩) m c) := Blk.cell I3 2
 have o0 : w3.cell? ⟨w.heap.size + 1, 0, none⟩ = some (.bool pk) := Blk.cell O3 0
 have o1 : w3.cell? ⟨w.heap.size + 1, 1, none⟩ = some (.int .i64 (n : Int)) := Blk.cell O3 1
 have o2 : w3.cell? ⟨w.heap.size + 1, 2, none⟩ = some (.int .i64 (al : Int)) := Blk.cell O3 2
 have o3 : w3.cell? ⟨w.heap.size + 1, 3, none⟩ = some (.bool lf) := Blk.cell O3 3
 have o4 : w3.cell? ⟨w.heap.size + 1, 4, none⟩ = some (.bool tp) := Blk.cell O3 4
 have o5 : w3.cell? ⟨w.heap.size + 1, 5, none⟩ = some (.string nm) := Blk.cell O3 5
 have HK := Lib.hid (And.intro I3 (And.intro O3 (And.intro A3 B3)))
 clear I3 O3 A3 B3
 go_upto_region 6 with (go_at_call 66; refine (HH.out _).mono ?_; rintro e w4 ⟨rfl, b4⟩)
 have u5 : Below w4.heap.size w4 (w4.alloc (.cells #[.int .i64 (nm.size : Int), .bool false, .int .i64 (t : Int), .int .i64 0, .int .i64 0, .int .i64 0, .int .i64 (W : Int), .int .i64 (H : Int), .int .i64 (n : Int), .int .i64 (al : Int), .bool lf, .bool tp] 121)) := (Below.refl _ _).alloc (Nat.le_refl _) _
 have H5 : Blk (w4.alloc (.cells #[.int .i64 (nm.size : Int), .bool false, .int .i64 (t : Int), .int .i64 0, .int .i64 0, .int .i64 0, .int .i64 (W : Int), .int .i64 (H : Int), .int .i64 (n : Int), .int .i64 (al : Int), .bool lf, .bool tp] 121)) w4.heap.size 121 #[.int .i64 (nm.size : Int), .bool false, .int .i64 (t : Int), .int .i64 0, .int .i64 0, .int .i64 0, .int .i64 (W : Int), .int .i64 (H : Int), .int .i64 (n : Int), .int .i64 (al : Int), .bool lf, .bool tp] := Blk.new _ _ _
 have b5 := below_next b4 u5
 clear b4 u5 i0 i1 i2 o0 o1 o2 o3 o4 o5
 generalize w4.alloc (.cells #[.int .i64 (nm.size : Int), .bool false, .int .i64 (t : Int), .int .i64 0, .int .i64 0, .int .i64 0, .int .i64 (W : Int), .int .i64 (H : Int), .int .i64 (n : Int), .int .i64 (al : Int), .bool lf, .bool tp] 121) = w5 at H5 b5 ⊢
 generalize w4.heap.size = kh at H5 ⊢
 have h0 : w5.cell? ⟨kh, 0, none⟩ = some (.int .i64 (nm.size : Int)) := Blk.cell H5 0
 have h1 : w5.cell? ⟨kh, 1, none⟩ = some (.bool false) := Blk.cell H5 1
 have h2 : w5.cell? ⟨kh, 2, none⟩ = some (.int .i64 (t : Int)) := Blk.cell H5 2
 have h3 : w5.cell? ⟨kh, 3, none⟩ = some (.int .i64 0) := Blk.cell H5 3
 have h4 : w5.cell? ⟨kh, 4, none⟩ = some (.int .i64 0) := Blk.cell H5 4
 have h5 : w5.cell? ⟨kh, 5, none⟩ = some (.int .i64 0) := Blk.cell H5 5
 have h6 : w5.cell? ⟨kh, 6, none⟩ = some (.int .i64 (W : Int)) := Blk.cell H5 6
 have h7 : w5.cell? ⟨kh, 7, none⟩ = some (.int .i64 (H : Int)) := Blk.cell H5 7
 have h8 : w5.cell? ⟨kh, 8, none⟩ = some (.int .i64 (n : Int)) := Blk.cell H5 8
 have h9 : w5.cell? ⟨kh, 9, none⟩ = some (.int .i64 (al : Int)) := Blk.cell H5 9
 have h10 : w5.cell? ⟨kh, 10, none⟩ = some (.bool lf) := Blk.cell H5 10
 have h11 : w5.cell? ⟨kh, 11, none⟩ = some (.bool tp) := Blk.cell H5 11
 have HZ := Lib.hid (And.intro hW (And.intro hH (And.intro hw1 (And.intro hh1 (And.intro hNB hmc)))))
 clear hW hH hw1 hh1 hNB hmc
 go_upto_region 7 with (go_at_call 64; refine (HB.out _).mono ?_; rintro e w6 ⟨rfl, b6⟩)
 have b56 := below_next b5 b6
 have I6 : Blk w6 w.heap.size 24 #[.int .i64 (W : Int), .int .i64 (H : Int), .slice (some ⟨ab, ao, none⟩) m c] := Blk.below HK.out.1 b56 (Blk.lt HK.out.1)
 have i0 : w6.cell? ⟨w.heap.size, 0, none⟩ = some (.int .i64 (W : Int)) := Blk.cell I6 0
 have i1 : w6.cell? ⟨w.heap.size, 1, none⟩ = some (.int .i64 (H : Int)) := Blk.cell I6 1
 have i2 : w6.cell? ⟨w.heap.size, 2, none⟩ = some (.slice (some ⟨ab, ao, none⟩) m c) := Blk.cell I6 2
 have O6 : Blk w6 (w.heap.size + 1) 56 #[.bool pk, .int .i64 (n : Int), .int .i64 (al : Int), .bool lf, .bool tp, .string nm] := Blk.below HK.out.2.1 b56 (Blk.lt HK.out.2.1)
 have H6 : Blk w6 kh 121 #[.int .i64 (nm.size : Int), .bool false, .int .i64 (t : Int), .int .i64 0, .int .i64 0, .int .i64 0, .int .i64 (W : Int), .int .i64 (H : Int), .int .i64 (n : Int), .int .i64 (al : Int), .bool lf, .bool tp] := Blk.below H5 b6 (Blk.lt H5)
 have A6 := HK.out.2.2.1.below b56
 have B6 := below_next HK.out.2.2.2 b56
 clear h0 h1 h2 h3 h4 h5 h6 h7 h8 h9 h10 h11 H5 b5 b6 b56 HK
 have hmk := HMK.out
 have hNI := HNI.out
 go_upto_region 9 with fail
 have X7 : TwrI w (w6.alloc (.cells (madeCells #[.string ⟨#[]⟩] N) 9)) pk n al lf tp nm W H t (some ⟨ab, ao, none⟩) m c kh w6.heap.size N l [] := ⟨Blk.alloc I6 _, Blk.alloc O6 _, Blk.alloc H6 _, (Blk.new _ _ _).eq_ (wrC_made N), A6.alloc _, B6.alloc B6.size _, B6.size⟩
 clear i0 i1 i2 I6 O6 H6 A6 B6 hmk hNI
 generalize w6.alloc (.cells (madeCells #[.string ⟨#[]⟩] N) 9) = w7 at X7 ⊢
 generalize w6.heap.size = ks at X7 ⊢
 have HX7 := Lib.hid X7
 clear X7
 go_loopg [10, 11, 12, 13, 14, 15, 43] N (fun k v10 v11 v12 v13 v14 v15 v43 wr => ∃ (i : Nat) (L : List ByteArray), i + k = N ∧ v43 = .int .i64 (i : Int) ∧ L.length = i ∧ Hid (WrOk (wrHd nm pk n al W H lf tp) l n al L) ∧ Hid (TwrI w wr pk n al lf tp nm W H t (some ⟨ab, ao, none⟩) m c kh ks N l L))
 case atStart => exact ⟨0, [], by omega, rfl, rfl, Lib.hid (fun k s h => by simp at h), HX7⟩
 case round =>
  obtain ⟨i, L, hi, rfl, hLi, HOK, HX⟩ := hrel
  clear HX7
  have hNB := HNB.out
  by_cases hiN : i < N
  ·have hiI : (i : Int) < (N : Int) := by omega
   have HII := Lib.hid hi
   have HLI := Lib.hid hLi
   clear hi hLi
   obtain ⟨X, hX⟩ : ∃ X, (wrHd nm pk n al W H lf tp).col i = X := ⟨_, rfl⟩
   obtain ⟨Y, hY⟩ : ∃ Y, (wrHd nm pk n al W H lf tp).rw i = Y := ⟨_, rfl⟩
   have hiWH : i < W * H := by rw [HQ.out.2.2.2.1]; exact hiN
   obtain ⟨hXW, hYH⟩ := wr_in HQ.out.2.2.2.2.1 HQ.out.2.2.2.2.2 hiWH hX hY
   have HPC := Lib.hid (fun w => HPL.out i X Y hiWH hX hY w)
   have HPA : Hid ((wrHd nm pk n al W H lf tp).place i = Y * W + X) := Lib.hid (by rw [← hX, ← hY]; rfl)
   clear hX hY hiWH
   have h0 : wr.cell? ⟨kh, 0, none⟩ = some (.int .i64 (nm.size : Int)) := Blk.cell HX.out.H 0
   have h1 : wr.cell? ⟨kh, 1, none⟩ = some (.bool false) := Blk.cell HX.out.H 1
   have h2 : wr.cell? ⟨kh, 2, none⟩ = some (.int .i64 (t : Int)) := Blk.cell HX.out.H 2
   have h3 : wr.cell? ⟨kh, 3, none⟩ = some (.int .i64 0) := Blk.cell HX.out.H 3
   have h4 : wr.cell? ⟨kh, 4, none⟩ = some (.int .i64 0) := Blk.cell HX.out.H 4
   have h5 : wr.cell? ⟨kh, 5, none⟩ = some (.int .i64 0) := Blk.cell HX.out.H 5
   have h6 : wr.cell? ⟨kh, 6, none⟩ = some (.int .i64 (W : Int)) := Blk.cell HX.out.H 6
   have h7 : wr.cell? ⟨kh, 7, none⟩ = some (.int .i64 (H : Int)) := Blk.cell HX.out.H 7
   have h8 : wr.cell? ⟨kh, 8, none⟩ = some (.int .i64 (n : Int)) := Blk.cell HX.out.H 8
   have h9 : wr.cell? ⟨kh, 9, none⟩ = some (.int .i64 (al : Int)) := Blk.cell HX.out.H 9
   have h10 : wr.cell? ⟨kh, 10, none⟩ = some (.bool lf) := Blk.cell HX.out.H 10
   have h11 : wr.cell? ⟨kh, 11, none⟩ = some (.bool tp) := Blk.cell HX.out.H 11
   go_upto_region 12 with (go_at_call 67; refine (HPC.out _).mono ?_; rintro e w8 ⟨rfl, b8⟩)
   have HX8 := Lib.hid (HX.out.below b8)
   clear HPC b8 h0 h1 h2 h3 h4 h5 h6 h7 h8 h9 h10 h11
   have i0 : w8.cell? ⟨w.heap.size, 0, none⟩ = some (.int .i64 (W : Int)) := Blk.cell HX8.out.I 0
   have i1 : w8.cell? ⟨w.heap.size, 1, none⟩ = some (.int .i64 (H : Int)) := Blk.cell HX8.out.I 1
   have i2 : w8.cell? ⟨w.heap.size, 2, none⟩ = some (.slice (some ⟨ab, ao, none⟩) m c) := Blk.cell HX8.out.I 2
   obtain ⟨pp, hpp⟩ : ∃ pp, Y * W = pp := ⟨_, rfl⟩
   have hpN : pp + X + 1 ≤ N := by rw [← hpp, ← HQ.out.2.2.2.1]; have := Nat.mul_le_mul_right W (show Y + 1 ≤ H by omega); rw [Nat.add_mul, Nat.one_mul, Nat.mul_comm H] at this; omega
   have hml : m = l.length := HX8.out.A.1
   have hm4 := HQ.out.2.2.1
   obtain ⟨q, hq⟩ : ∃ q, qcAt l (pp + X) = q := ⟨_, rfl⟩
   have hqt := qcAt_take (l := l) (i := pp + X) (by omega)
   rw [hq] at hqt
   have HPX9 := Lib.hid (fun (wz : World) (hz : BytesAt wz (some ⟨ab, ao, none⟩) m l) => pixel_yes (W := W) (H := H) (X := X) (Y := Y) (p := pp) (i := 4 * (pp + X)) (bb := ab) (off := ao) (n := m) (c := c) (l := l) (w := wz) HQ.out.1 hml (by
    rcases hz.2 with h0 | ⟨b', o', h0, h1⟩
    ·omega
    ·cases h0; exact h1) HQ.out.2.1 hXW hYH hpp rfl (by omega) hqt)
   have HPP := Lib.hid (And.intro hpp hq)
   clear hpp hpN hml hm4 hXW hYH hq hqt
   go_upto_region 14 with (go_at_call 32; refine (HPX9.out _ HX8.out.A).mono ?_; rintro e w9 ⟨rfl, b9⟩)
   have HX10 := Lib.hid ((HX8.out.below b9).below ((Below.refl _ _).alloc (Nat.le_refl _) (.cells #[.int .u8 (q.r.toNat : Int), .int .u8 (q.g.toNat : Int), .int .u8 (q.b.toNat : Int), .int .u8 (q.a.toNat : Int)] 68)))
   have D10 : Blk (w9.alloc (.cells #[.int .u8 (q.r.toNat : Int), .int .u8 (q.g.toNat : Int), .int .u8 (q.b.toNat : Int), .int .u8 (q.a.toNat : Int)] 68)) w9.heap.size 68 #[.int .u8 (q.r.toNat : Int), .int .u8 (q.g.toNat : Int), .int .u8 (q.b.toNat : Int), .int .u8 (q.a.toNat : Int)] := Blk.new _ _ _
   clear i0 i1 i2 b9 HPX9 HX8
   generalize w9.alloc (.cells #[.int .u8 (q.r.toNat : Int), .int .u8 (q.g.toNat : Int), .int .u8 (q.b.toNat : Int), .int .u8 (q.a.toNat : Int)] 68) = w10 at HX10 D10 ⊢
   generalize w9.heap.size = qd at D10 ⊢
   have o0 : w10.cell? ⟨w.heap.size + 1, 0, none⟩ = some (.bool pk) := Blk.cell HX10.out.O 0
   have o1 : w10.cell? ⟨w.heap.size + 1, 1, none⟩ = some (.int .i64 (n : Int)) := Blk.cell HX10.out.O 1
   have o2 : w10.cell? ⟨w.heap.size + 1, 2, none⟩ = some (.int .i64 (al : Int)) := Blk.cell HX10.out.O 2
   have o3 : w10.cell? ⟨w.heap.size + 1, 3, none⟩ = some (.bool lf) := Blk.cell HX10.out.O 3
   have o4 : w10.cell? ⟨w.heap.size + 1, 4, none⟩ = some (.bool tp) := Blk.cell HX10.out.O 4
   have o5 : w10.cell? ⟨w.heap.size + 1, 5, none⟩ = some (.string nm) := Blk.cell HX10.out.O 5
   have d0 : w10.cell? ⟨qd, 0, none⟩ = some (.int .u8 (q.r.toNat : Int)) := Blk.cell D10 0
   have d1 : w10.cell? ⟨qd, 1, none⟩ = some (.int .u8 (q.g.toNat : Int)) := Blk.cell D10 1
   have d2 : w10.cell? ⟨qd, 2, none⟩ = some (.int .u8 (q.b.toNat : Int)) := Blk.cell D10 2
   have d3 : w10.cell? ⟨qd, 3, none⟩ = some (.int .u8 (q.a.toNat : Int)) := Blk.cell D10 3
   have HPQ := Lib.hid (HPX.out q w10)
   unfold Qc.v OptPxPost at HPQ
   have hcell : ((wrC L N)[i]? = some (.string ⟨#[]⟩)) := by
    rw [← HLI.out]
    unfold wrC
    rw [List.getElem?_toArray, List.getElem?_append_right (by rw [List.length_map]; exact Nat.le_refl _), List.length_map, Nat.sub_self, List.getElem?_replicate, if_pos (by rw [HLI.out]; omega)]
   have HCL := Lib.hid hcell
   clear hcell
   go_upto_region 15 with (go_at_call 68; refine HPQ.out.mono ?_; rintro e w11 ⟨b11, hor⟩; have HX11 := Lib.hid (HX10.out.below b11); have y0 : w11.cell? ⟨ks, i, none⟩ = some (.string ⟨#[]⟩) := (Blk.cell HX11.out.S i).trans HCL.out; have z0 : w11.frozen? ⟨ks, i, none⟩ = false := Blk.frozen HX11.out.S i; have kl := Blk.lt HX11.out.S; clear o0 o1 o2 o3 o4 o5 d0 d1 d2 d3 D10 b11 HX10; rcases hor with ⟨s, rfl, hno⟩ | ⟨s, rfl, hs1, hs2⟩)
   ·go_wp2_with fail
    exact bodyPost_ret (v := .tuple #[.string ⟨#[]⟩, .int .i64 6]) (by simp [results, Tryz.results23, go_sem]) rfl ⟨below_set HX11.out.B HX11.out.ge, .inl ⟨rfl, hno⟩⟩
   ·have HS := Lib.hid (And.intro hs1 hs2)
    clear hs1 hs2
    go_wp2_with fail
    go_roundg (N - (i + 1))
    case measure => have := HII.out; omega
    case rel =>
     refine ⟨i + 1, L ++ [s], by omega, by go_num, by rw [List.length_append, HLI.out]; rfl, Lib.hid (fun k s' hk => ?_), Lib.hid (HX11.out.store HLI.out hiN)⟩
     by_cases e : k < L.length
     ·exact HOK.out k s' (by rw [List.getElem?_append_left e] at hk; exact hk)
     ·rw [List.getElem?_append_right (by omega)] at hk
      have hk2 : k = L.length := by
       by_cases e2 : k - L.length = 0
       ·omega
       ·rw [List.getElem?_eq_none (by simp; omega)] at hk; cases hk
      subst hk2
      rw [Nat.sub_self] at hk
      cases hk
      refine ⟨HS.out.1, ?_⟩
      rw [HS.out.2, HLI.out, HPA.out, HPP.out.1, HPP.out.2]
  ·have hiI : ¬ (i : Int) < (N : Int) := by omega
   obtain ⟨wq, hwq⟩ : ∃ x, x = wr := ⟨_, rfl⟩
   subst hwq
   have hLN : L.length = N := by omega
   have HOUT := Lib.hid (fun (s : ByteArray) (hs : s.data.toList = bb.data.toList ++ nm.data.toList ++ wrBody pk L) => HWR.out s L (by rw [hLN, HQ.out.2.2.2.1]) HOK.out hs)
   have HLN := Lib.hid hLN
   clear hi hLi hLN HWR HPX HPL
   have o0 : wq.cell? ⟨w.heap.size + 1, 0, none⟩ = some (.bool pk) := Blk.cell HX.out.O 0
   have o5 : wq.cell? ⟨w.heap.size + 1, 5, none⟩ = some (.string nm) := Blk.cell HX.out.O 5
   have HADD : ∀ w : World, (Op.stringOp .add bb nm).run Tryz.prog w = .ok (.string (bb ++ nm)) w := fun w => run_string_add_sum w _ _ (by have := hb18.out; have := HNM.out.1; omega)
   have hhd : (bb ++ nm).size ≤ 400 := by rw [ByteArray.size_append]; have := hb18.out; have := HNM.out.1; omega
   have HHD : Hid ((bb ++ nm).data.toList = bb.data.toList ++ nm.data.toList) := Lib.hid (by simp)
   generalize bb ++ nm = hd at HADD hhd HHD
   have HHS := Lib.hid hhd
   clear hhd
   go_upto_region 19 with (refine wpList_bytes rfl (.tmp 74) rfl hd rfl (by have := HHS.out; omega) ?_; intro v8 w8 own8 b8)
   have z8 := b8.size
   clear o0 o5 HADD
   have S8 : Blk w8 ks 9 (wrC L N) := Blk.below HX.out.S b8 (Blk.lt HX.out.S)
   have T8 : Hid (Texts w8 ks 0 L) := Lib.hid (fun j hj => by
    rw [Nat.zero_add, Blk.cell S8 j]
    unfold wrC
    rw [List.getElem?_toArray, List.getElem?_append_left (by rw [List.length_map]; exact hj), List.getElem?_map, List.getElem?_eq_getElem hj]
    rfl)
   have o0 : w8.cell? ⟨w.heap.size + 1, 0, none⟩ = some (.bool pk) := (b8.cell (p := ⟨w.heap.size + 1, 0, none⟩) (Blk.lt HX.out.O)).trans (Blk.cell HX.out.O 0)
   have HS8 := Lib.hid S8
   have hsz : ∀ t ∈ L, t.size ≤ 20 := fun t ht => by
    obtain ⟨k, hk, rfl⟩ := List.getElem_of_mem ht
    have := (HOK.out k _ (List.getElem?_eq_getElem hk)).1
    have := HNM.out.2
    omega
   have HSZ := Lib.hid hsz
   have HO8 := Lib.hid own8
   have HB8 := Lib.hid b8
   clear S8 hsz own8 b8
   cases pk
   ·go_upto_region 22 with fail
    go_loopg [16, 18, 85] N (fun k v16 v18 v85 wr => ∃ j : Nat, j + k = N ∧ v85 = .int .i64 (j : Int) ∧ Hid (OwnsM wr wq.heap.size v16 (hd.data.toList ++ (BL (L.take j)).flatten)) ∧ Hid (Below wq.heap.size wq wr))
    case atStart => exact ⟨0, by omega, rfl, by rw [List.take_zero, show (BL []).flatten = [] from rfl, List.append_nil]; exact HO8, HB8⟩
    case round =>
     obtain ⟨j, hj, rfl, HOJ, HBJ⟩ := hrel
     by_cases hjN : j < N
     ·have hjI : (j : Int) < (N : Int) := by omega
      have HJ := Lib.hid hj
      clear hj
      obtain ⟨t, ht⟩ : ∃ t, L[j]? = some t := ⟨_, List.getElem?_eq_getElem (by rw [HLN.out]; exact hjN)⟩
      have y0 : wr.cell? ⟨ks, j, none⟩ = some (.string t) := (HBJ.out.cell (p := ⟨ks, j, none⟩) (Blk.lt HX.out.S)).trans (by
       rw [Blk.cell HX.out.S j]
       unfold wrC
       rw [List.getElem?_toArray, List.getElem?_append_left (by rw [List.length_map, HLN.out]; exact hjN), List.getElem?_map, ht]
       rfl)
      have HT := Lib.hid ht
      have own := HOJ.out
      have zl := HBJ.out.size
      have hfl : ((BL (L.take j)).flatten).length ≤ 80000 ∧ t.size ≤ 20 := by
       have hz : ∀ y ∈ BL (L.take j), y.length = (n + 7) / 8 := fun y hy => by
        unfold BL at hy
        rw [List.mem_map] at hy
        obtain ⟨t', ht', rfl⟩ := hy
        obtain ⟨k', hk', rfl⟩ := List.getElem_of_mem (List.mem_of_mem_take ht')
        rw [list_len]
        exact (HOK.out k' _ (List.getElem?_eq_getElem hk')).1
       have h1 := flatten_len _ hz
       rw [BL_len, List.length_take, Nat.min_eq_left (by rw [HLN.out]; omega)] at h1
       refine ⟨?_, HSZ.out t (List.mem_of_getElem? ht)⟩
       rw [h1]
       have := Nat.mul_le_mul (show j ≤ 3600 by omega) HNM.out.2
       omega
      have HFL := Lib.hid hfl
      clear ht hfl
      go_wp2_with (at_builtin; refine wpList_append_strM rfl (.tmp 89) (.tmp 90) rfl wq.heap.size _ _ rfl own t rfl ?_ ?_ ?_; (rw [List.length_append, list_len]; have := HFL.out; have := HHS.out; omega); (exact zl); intro v9 w9 own9 b9)
      go_roundg (N - (j + 1))
      case measure => have := HJ.out; omega
      case rel =>
       refine ⟨j + 1, by omega, by go_num, Lib.hid ?_, Lib.hid (HBJ.out.trans b9)⟩
       have e : (BL (L.take (j + 1))).flatten = (BL (L.take j)).flatten ++ t.data.toList := by rw [BL_take, BL_take, flat_next HT.out]
       rw [e, ← List.append_assoc]
       exact own9
     ·have hjI : ¬ (j : Int) < (N : Int) := by omega
      have own := HOJ.out
      have hjE : L.take j = L := List.take_of_length_le (by rw [HLN.out]; omega)
      rw [hjE] at own
      clear hj
      go_wp2_with (refine wpList_convert_M rfl (.tmp 93) 9 Tryz.underlying9 rfl _ _ _ rfl own ?_)
      exact bodyPost_ret (v := .tuple #[.string (strOf (hd.data.toList ++ (BL L).flatten)), .int .i64 0]) (by simp [results, Tryz.results23, go_sem]) rfl ⟨HX.out.B.trans (HBJ.out.mono HX.out.B.size), .inr ⟨_, rfl, HOUT.out _ (by rw [strOf_toList, HHD.out]; rfl)⟩⟩
   ·have HPK := Lib.hid (pack_any (c := N) (a := some ⟨ks, 0, none⟩) ⟨HLN.out.symm, Nat.le_refl _, .inr ⟨ks, 0, rfl, T8.out⟩⟩ (by omega) HSZ.out)
    go_wp2_with (first
     | (go_at_call 69; refine HPK.out.mono ?_; rintro e w9 ⟨rfl, hpl, b9⟩; have z9 := b9.size; have own9 := HO8.out.below_ b9; have PL := Lib.hid hpl; clear hpl)
     | (at_builtin; refine wpList_append_strM rfl (.tmp 78) (.tmp 80) rfl wq.heap.size _ _ rfl own9 _ rfl ?_ ?_ ?_; (rw [strOf_size, list_len]; have := PL.out; have := HHS.out; omega); (omega); intro v10 w10 own10 b10)
     | (refine wpList_convert_M rfl (.tmp 81) 9 Tryz.underlying9 rfl _ _ _ rfl own10 ?_))
    exact bodyPost_ret (v := .tuple #[.string (strOf (hd.data.toList ++ (strOf (packL (BL L))).data.toList)), .int .i64 0]) (by simp [results, Tryz.results23, go_sem]) rfl ⟨(below_next (below_next HX.out.B HB8.out) b9).trans (b10.mono HX.out.B.size), .inr ⟨_, rfl, HOUT.out _ (by rw [strOf_toList, strOf_toList, HHD.out]; rfl)⟩⟩
end Go.Proofs.YtlehkgkomjojmaaGreat
