/- A raster's Set. -/
import Derived.Test.YtfgcbhcfekonnaaRas3
namespace Go.Proofs.Ytfgcbhcfekonnaa
open Go.RowKit
set_option linter.unusedVariables false
set_option linter.unusedSimpArgs false

theorem over_snoc (l s : List UInt8) (i : Nat) (v : UInt8) (h : i + s.length < l.length) : (over l i s).set (i + s.length) v = over l i (s ++ [v]) := by
  unfold over
  have e : (l.take i ++ s).length = i + s.length := by simp; omega
  rw [List.set_append_right _ _ (by rw [e]; exact Nat.le_refl _), e, Nat.sub_self, List.drop_eq_getElem_cons h, List.set_cons_zero]
  simp [List.append_assoc]
  omega
section
variable {w : World} {r g b d : Nat} {l : List UInt8} {x y : Led}
set_option maxRecDepth 100000 in
set_option maxHeartbeats 1000000 in
theorem rasSet_yes {X Y W H p i : Nat} {c0 c1 c2 c3 : UInt8} (h : RasAt w r g b (W : Int) (H : Int) true) (hm : BufAt w b g d l) (hL : LedAt w g x) (ok : x.Ok) (he : x.work 1 = (y, true)) (hX : X < W) (hY : Y < H) (hp : Y * W = p) (hi : 4 * (p + X) = i) (hp1 : p ≤ 1073741824) (hW : W ≤ 16384) (hH : H ≤ 16384) (hl : i + 4 ≤ l.length) (hs : l.length ≤ 1099511627776) :
    Calls Try.prog 42 #[.pointer (some ⟨r, 0, none⟩), .int .i64 (X : Int), .int .i64 (Y : Int), .agg #[.int .u8 (c0.toNat : Int), .int .u8 (c1.toNat : Int), .int .u8 (c2.toNat : Int), .int .u8 (c3.toNat : Int)]] w fun e w' => e = .returned (.bool true) ∧ BufAt w' b g d (over l i [c0, c1, c2, c3]) ∧ LedAt w' g y ∧ Turn [g, d] w w' := by
  have hbg := hm.bg hL
  have hdg := hm.dg hL
  have hbd := hm.bd
  have hrg : r ≠ g := Blk.ne_ h hL (by decide)
  have hrd : r ≠ d := Blk.ne_ h hm.row (by decide)
  obtain ⟨wb, hwb⟩ : ∃ wb, wb = w.alloc (.cells #[.int .u8 (c0.toNat : Int), .int .u8 (c1.toNat : Int), .int .u8 (c2.toNat : Int), .int .u8 (c3.toNat : Int)] 39) := ⟨_, rfl⟩
  have h1 : RasAt wb r g b (W : Int) (H : Int) true := hwb ▸ Blk.alloc h _
  have m1 : BufAt wb b g d l := hwb ▸ ⟨hm.blk.alloc _, hm.row.alloc _⟩
  have l1 : LedAt wb g x := hwb ▸ Blk.alloc hL _
  have k1 : CB wb w.heap.size c0.toNat c1.toNat c2.toNat c3.toNat := hwb ▸ Blk.new _ _ _
  have t1 : Turn [g, d] w wb := hwb ▸ (Turn.refl _ _).alloc _
  have hgl := Blk.lt hL
  have HA := Lib.hid (rasAt_yes h1 hX hY hp hi hp1 hW hH)
  have HR := Lib.hid h1
  have HM := Lib.hid m1
  have HL := Lib.hid l1
  have HK := Lib.hid k1
  have HT := Lib.hid t1
  have HOK := Lib.hid ok
  have HE := Lib.hid he
  have HLL := Lib.hid hl
  have d0 := h1.l
  rw [hwb] at HA HR HM HL HK HT d0
  obtain ⟨i0, i1, i2, i3⟩ := idx4 (.int .u8 (c0.toNat : Int)) (.int .u8 (c1.toNat : Int)) (.int .u8 (c2.toNat : Int)) (.int .u8 (c3.toNat : Int))
  obtain ⟨j1, hj1⟩ : ∃ j, j = i + 1 := ⟨_, rfl⟩
  obtain ⟨j2, hj2⟩ : ∃ j, j = i + 2 := ⟨_, rfl⟩
  obtain ⟨j3, hj3⟩ : ∃ j, j = i + 3 := ⟨_, rfl⟩
  have e1 : (i : Int) + 1 = (j1 : Int) := by omega
  have e2 : (i : Int) + 2 = (j2 : Int) := by omega
  have e3 : (i : Int) + 3 = (j3 : Int) := by omega
  have hib : i ≤ 1099511627776 := by omega
  have HJ := Lib.hid (And.intro hj1 (And.intro hj2 hj3))
  have rl := Blk.lt h
  clear h hm hL ok he h1 m1 l1 k1 t1 hp hi hl hwb hj1 hj2 hj3
  go_enter Try.func42, Try.ntmps42
  go_wp2_with (first
    | (go_at_call 78; refine HA.out.mono ?_; rintro e w9 ⟨rfl, rfl⟩)
    | (go_at_call 79; refine (work_at HL.out HOK.out HE.out).mono ?_; rintro e w1 ⟨rfl, l2, b1⟩; have t2 : Turn [g] _ w1 := Turn.of_grown b1 (by simp); have R2 : RasAt w1 r g b (W : Int) (H : Int) true := Blk.turn HR.out t2 (by simpa using hrg); have M2 : BufAt w1 b g d l := HM.out.turn t2 (by simpa using hbg) (by simpa using hdg); have K2 : CB w1 w.heap.size c0.toNat c1.toNat c2.toNat c3.toNat := Blk.turn HK.out t2 (by simp; omega); have T2 : Turn [g, d] w w1 := HT.out.trans (t2.mono (by simp)); have k0 := K2.c0; have k1 := K2.c1; have k2 := K2.c2; have k3 := K2.c3))
  have HR2 := Lib.hid R2
  have HM2 := Lib.hid M2
  have HL2 := Lib.hid l2
  have HT2 := Lib.hid T2
  clear R2 M2 l2 T2 K2 t2 b1 k0 k1 k2 k3
  go_loopg [39] 4 (fun k iv wr => ∃ s : List UInt8, BufAt wr b g d (over l i s) ∧ RasAt wr r g b (W : Int) (H : Int) true ∧ LedAt wr g y ∧ Turn [g, d] w wr ∧ ((k = 4 ∧ iv = .int .i64 0 ∧ s = []) ∨ (k = 3 ∧ iv = .int .i64 1 ∧ s = [c0]) ∨ (k = 2 ∧ iv = .int .i64 2 ∧ s = [c0, c1]) ∨ (k = 1 ∧ iv = .int .i64 3 ∧ s = [c0, c1, c2]) ∨ (k = 0 ∧ iv = .int .i64 4 ∧ s = [c0, c1, c2, c3])))
  case atStart => exact ⟨[], by rw [over_nil]; exact HM2.out, HR2.out, HL2.out, HT2.out, .inl ⟨rfl, rfl, rfl⟩⟩
  case round =>
    obtain ⟨s, mb, rb, lb, tb, hor⟩ := hrel
    have f3 := rb.b_
    have HMb := Lib.hid mb
    have HRb := Lib.hid rb
    have HLb := Lib.hid lb
    have HTb := Lib.hid tb
    clear mb rb lb tb HR2 HM2 HL2 HT2 d0
    have next : ∀ (w2 : World) (j : Nat) (v : UInt8), j = i + s.length → j < l.length → BufAt w2 b g d ((over l i s).set j v) → Turn [d] wr w2 → BufAt w2 b g d (over l i (s ++ [v])) ∧ RasAt w2 r g b (W : Int) (H : Int) true ∧ LedAt w2 g y ∧ Turn [g, d] w w2 := by
      intro w2 j v hjj hj hb ht
      subst hjj
      rw [over_snoc _ _ _ _ hj] at hb
      exact ⟨hb, Blk.turn HRb.out ht (by simpa using hrd), LedAt.turn HLb.out ht (by simpa using hdg.symm), HTb.out.trans (ht.mono (by simp))⟩
    have HN := Lib.hid next
    clear next
    have hll : ∀ t : List UInt8, t.length ≤ 4 → (over l i t).length = l.length := fun t ht => over_len _ _ _ (by have := HLL.out; omega)
    have HLN := Lib.hid hll
    clear hll
    obtain ⟨rfl, rfl, rfl⟩ | ⟨rfl, rfl, rfl⟩ | ⟨rfl, rfl, rfl⟩ | ⟨rfl, rfl, rfl⟩ | ⟨rfl, rfl, rfl⟩ := hor
    · go_wp2_with (go_at_call 80; refine (bufSet_yes (i := i) c0 HMb.out (by rw [HLN.out _ (by simp)]; have := HLL.out; omega) (by rw [HLN.out _ (by simp)]; exact hs)).mono ?_; rintro e w2 ⟨rfl, m2, t2⟩)
      go_roundg 3
      case measure => decide
      case rel =>
        obtain ⟨q1, q2, q3, q4⟩ := HN.out _ _ _ (by simp) (by have := HLL.out; omega) m2 t2
        exact ⟨_, q1, q2, q3, q4, .inr (.inl ⟨rfl, rfl, rfl⟩)⟩
    · go_wp2_with (go_at_call 80; refine (bufSet_yes (i := j1) c1 HMb.out (by rw [HLN.out _ (by simp)]; have := HLL.out; omega) (by rw [HLN.out _ (by simp)]; exact hs)).mono ?_; rintro e w2 ⟨rfl, m2, t2⟩)
      go_roundg 2
      case measure => decide
      case rel =>
        obtain ⟨q1, q2, q3, q4⟩ := HN.out _ _ _ (by rw [HJ.out.1]; simp) (by have := HLL.out; omega) m2 t2
        exact ⟨_, q1, q2, q3, q4, .inr (.inr (.inl ⟨rfl, rfl, rfl⟩))⟩
    · go_wp2_with (go_at_call 80; refine (bufSet_yes (i := j2) c2 HMb.out (by rw [HLN.out _ (by simp)]; have := HLL.out; omega) (by rw [HLN.out _ (by simp)]; exact hs)).mono ?_; rintro e w2 ⟨rfl, m2, t2⟩)
      go_roundg 1
      case measure => decide
      case rel =>
        obtain ⟨q1, q2, q3, q4⟩ := HN.out _ _ _ (by rw [HJ.out.2.1]; simp) (by have := HLL.out; omega) m2 t2
        exact ⟨_, q1, q2, q3, q4, .inr (.inr (.inr (.inl ⟨rfl, rfl, rfl⟩)))⟩
    · go_wp2_with (go_at_call 80; refine (bufSet_yes (i := j3) c3 HMb.out (by rw [HLN.out _ (by simp)]; have := HLL.out; omega) (by rw [HLN.out _ (by simp)]; exact hs)).mono ?_; rintro e w2 ⟨rfl, m2, t2⟩)
      go_roundg 0
      case measure => decide
      case rel =>
        obtain ⟨q1, q2, q3, q4⟩ := HN.out _ _ _ (by rw [HJ.out.2.2]; simp) (by have := HLL.out; omega) m2 t2
        exact ⟨_, q1, q2, q3, q4, .inr (.inr (.inr (.inr ⟨rfl, rfl, rfl⟩)))⟩
    · go_wp2_with fail
      go_ret
      exact ⟨rfl, HMb.out, HLb.out, HTb.out⟩
end
end Go.Proofs.Ytfgcbhcfekonnaa
