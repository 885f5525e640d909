/- Writing PNM: the law PnmrawWrites. -/
import Derived.Test.YthljhebbblhakaaGreatDoorEPnmB
import Derived.Test.YthljhebbblhakaaGreatDoorEPnmOpen
import Derived.Test.YthljhebbblhakaaGreatDoorEImgOpen
import Derived.Test.YthljhebbblhakaaGreatDoorRows
import Derived.LaidLaws
import Derived.LaidSub
import Derived.MakeChecks
import Derived.Lib.LaidTab
namespace Go.Proofs.YthljhebbblhakaaGreatDoor
open Go.RowKit
open Go.ChangeShapes Go.WideShapes Go.ChangeAt
set_option linter.unusedVariables false
set_option linter.unusedSimpArgs false

/-- what holds of the law's image -/
structure WjI (w0 w : World) (W H : Int) (n c : Nat) (a : Option Addr) (l : List UInt8) : Prop where
  I : IB w w0.heap.size W H a n c
  D : BytesAt w a n l
  B : Below w0.heap.size w0 w
section
variable {w0 w w' : World} {W H : Int} {n c : Nat} {a : Option Addr} {l : List UInt8}
theorem WjI.below (h : WjI w0 w W H n c a l) (b : Below w.heap.size w w') : WjI w0 w' W H n c a l := ⟨Blk.below h.I b (Blk.lt h.I), h.D.below b, below_next h.B b⟩
theorem WjI.alloc (h : WjI w0 w W H n c a l) (x : Obj) : WjI w0 (w.alloc x) W H n c a l := h.below ((Below.refl _ _).alloc (Nat.le_refl _) _)
theorem WjI.new (h : BytesAt w a n l) : WjI w (w.alloc (.cells #[.int .i64 W, .int .i64 H, .slice a n c] 24)) W H n c a l := ⟨Blk.new _ _ _, h.alloc _, (Below.refl _ _).alloc (Nat.le_refl _) _⟩
end
def LawW (W H : Int) (n c : Nat) (a : Option Addr) (k : Int) (w : World) : Prop := Calls Tryz.prog 4 #[.agg #[.int .i64 W, .int .i64 H, .slice a n c], .int .i64 k] w fun e w' => e = .returned (.bool true) ∧ Below w.heap.size w w'
set_option maxHeartbeats 4000000 in
theorem law14_long {W H k : Int} {n c : Nat} {a : Option Addr} {l : List UInt8} {w : World} (hb : BytesAt w a n l) (hn : 1000 < n) : LawW W H n c a k w := by
  have W1 : WjI w (w.alloc (.cells #[.int .i64 W, .int .i64 H, .slice a n c] 24)) W H n c a l := WjI.new hb
  obtain ⟨i0, i1, i2, z0, z1, z2, il⟩ := IB.all W1.I
  have hnI : (1000 : Int) < (n : Int) := by omega
  clear hb
  unfold LawW
  go_enter Tryz.func4, Tryz.ntmps4
  go_wp2_with (go_at_call 13; refine (awake14_any _).mono ?_; rintro e w1 ⟨rfl, b1⟩)
  go_ret
  exact ⟨rfl, below_next W1.B b1⟩
set_option maxHeartbeats 4000000 in
theorem law14_arg {W H k : Int} {n c : Nat} {a : Option Addr} {l : List UInt8} {w : World} (hb : BytesAt w a n l) (hn : n ≤ 1000) (hk : k < 4 ∨ 6 < k) : LawW W H n c a k w := by
  have W1 : WjI w (w.alloc (.cells #[.int .i64 W, .int .i64 H, .slice a n c] 24)) W H n c a l := WjI.new hb
  obtain ⟨i0, i1, i2, z0, z1, z2, il⟩ := IB.all W1.I
  have hnI : ¬ (1000 : Int) < (n : Int) := by omega
  have HW := Lib.hid (fun w => rawWrite_arg (W := W) (H := H) (a := a) (n := n) (c := c) (w := w) hk)
  clear hb
  unfold LawW
  by_cases h : k < 4
  · clear hk
    go_enter Tryz.func4, Tryz.ntmps4
    go_wp2_with (first | (go_at_call 14; refine (HW.out _).mono ?_; rintro e w1 ⟨b1, rfl⟩) | (go_at_call 13; refine (awake14_any _).mono ?_; rintro e w2 ⟨rfl, b2⟩))
    go_ret
    exact ⟨rfl, below_next (below_next W1.B b1) b2⟩
  · have h6 : 6 < k := by omega
    clear hk
    go_enter Tryz.func4, Tryz.ntmps4
    go_wp2_with (first | (go_at_call 14; refine (HW.out _).mono ?_; rintro e w1 ⟨b1, rfl⟩) | (go_at_call 13; refine (awake14_any _).mono ?_; rintro e w2 ⟨rfl, b2⟩))
    go_ret
    exact ⟨rfl, below_next (below_next W1.B b1) b2⟩
set_option maxHeartbeats 4000000 in
theorem law14_size {W H k : Int} {n c : Nat} {a : Option Addr} {l : List UInt8} {w : World} (hb : BytesAt w a n l) (hn : n ≤ 1000) (hk : 4 ≤ k ∧ k ≤ 6) (hr : ¬ RightP W H n) : LawW W H n c a k w := by
  have W1 : WjI w (w.alloc (.cells #[.int .i64 W, .int .i64 H, .slice a n c] 24)) W H n c a l := WjI.new hb
  obtain ⟨i0, i1, i2, z0, z1, z2, il⟩ := IB.all W1.I
  have hnI : ¬ (1000 : Int) < (n : Int) := by omega
  have HW := Lib.hid (fun w => rawWrite_size (W := W) (H := H) (a := a) (n := n) (c := c) (w := w) hk hr)
  have HR := Lib.hid (fun w => refRight_bool (a := a) (c := c) (decide_eq_false hr) w)
  have h4 : ¬ k < 4 := by omega
  have h6 : ¬ 6 < k := by omega
  clear hb hr hk
  unfold LawW
  go_enter Tryz.func4, Tryz.ntmps4
  go_wp2_with (first | (go_at_call 14; refine (HW.out _).mono ?_; rintro e w1 ⟨b1, rfl⟩; have W2 := W1.below b1; clear i0 i1 i2 z0 z1 z2 il; obtain ⟨i0, i1, i2, z0, z1, z2, il⟩ := IB.all W2.I) | (go_at_call 8; refine (HR.out _).mono ?_; rintro e w3 ⟨rfl, b3⟩) | (go_at_call 13; refine (awake14_any _).mono ?_; rintro e w4 ⟨rfl, b4⟩))
  go_ret
  exact ⟨rfl, below_next (below_next W2.B b3) b4⟩
set_option maxHeartbeats 4000000 in
theorem law14_no {W H k n c : Nat} {a : Option Addr} {l : List UInt8} {w : World} (hT : TabW w) (hb : BytesAt w a n l) (hl : n = l.length) (hnc : n ≤ c) (hn : n ≤ 1000) (hk : 1 ≤ k ∧ k ≤ 3) (hr : RightP (W : Int) (H : Int) n) (hWb : W ≤ 250) (hHb : H ≤ 250) (hm : mayAll k l (W * H) = false) : LawW (W : Int) (H : Int) n c a ((k + 3 : Nat) : Int) w := by
  have W1 : WjI w (w.alloc (.cells #[.int .i64 (W : Int), .int .i64 (H : Int), .slice a n c] 24)) (W : Int) (H : Int) n c a l := WjI.new hb
  obtain ⟨i0, i1, i2, z0, z1, z2, il⟩ := IB.all W1.I
  have hnI : ¬ (1000 : Int) < (n : Int) := by omega
  have HW := Lib.hid (rawWriteC (K := k + 3) (by omega) (hT.below W1.B) hr hl hnc W1.D (by omega) (by omega))
  rw [rawV_no (by rw [mayAll_shift k hk]; exact hm)] at HW
  have HR := Lib.hid (fun w => refRight_bool (a := a) (c := c) (decide_eq_true hr) w)
  have HM := Lib.hid (fun (w : World) (hb : BytesAt w a n l) => refMayC (c := c) hk hr hl hnc hb)
  rw [hm] at HM
  obtain ⟨K, hK⟩ : ∃ K, k + 3 = K := ⟨_, rfl⟩
  rw [hK] at HW ⊢
  have h4 : ¬ (K : Int) < 4 := by omega
  have h6 : ¬ 6 < (K : Int) := by omega
  have h3 : IntKind.i64.wrap ((K : Int) - 3) = (k : Int) := by rw [show (K : Int) - 3 = (k : Int) by omega]; exact IntWalk.i64_in _ (by omega)
  clear hb hr hT hm hl hnc
  unfold LawW
  go_enter Tryz.func4, Tryz.ntmps4
  go_wp2_with (first | (go_at_call 14; refine HW.out.mono ?_; rintro e w1 ⟨b1, rfl⟩; have W2 := W1.below b1; clear i0 i1 i2 z0 z1 z2 il; obtain ⟨i0, i1, i2, z0, z1, z2, il⟩ := IB.all W2.I) | (go_at_call 8; refine (HR.out _).mono ?_; rintro e w3 ⟨rfl, b3⟩; have W3 := W2.below b3; clear i0 i1 i2 z0 z1 z2 il; obtain ⟨i0, i1, i2, z0, z1, z2, il⟩ := IB.all W3.I) | (go_at_call 9; refine (HM.out _ W3.D).mono ?_; rintro e w5 ⟨rfl, b5⟩) | (go_at_call 13; refine (awake14_any _).mono ?_; rintro e w4 ⟨rfl, b4⟩))
  go_ret
  exact ⟨rfl, below_next (below_next W3.B b5) b4⟩
theorem strOf_list (l : List UInt8) : (strOf l).data.toList = l := by unfold strOf; simp
theorem strOfW_size (l : List UInt8) : (strOf l).size = l.length := by unfold strOf; simp [ByteArray.size]
/-- a file that is written is read -/
theorem encRead {K W H n : Nat} {l : List UInt8} (hK : K = 4 ∨ K = 5 ∨ K = 6) (hr : RightP (W : Int) (H : Int) n) (hl : n = l.length) (hn : n ≤ 1000) (hW : W ≤ 100) (hH : H ≤ 100) (hm : mayAll K l (W * H) = true) (w : World) : Calls Tryz.prog 16 #[.string (strOf (encL K W H l)), .int .i64 100000] w fun e w' => ∃ g d, e = .returned (imgRet W H d n g) ∧ BytesAt w' (some ⟨d, 0, none⟩) n l ∧ Below w.heap.size w w' := by
  have hwh : 4 * (W * H) = n := by
    have := hr.2.2
    have e : 4 * (W : Int) * (H : Int) = ((4 * (W * H) : Nat) : Int) := by rw [Int.mul_assoc]; simp
    rw [e] at this
    omega
  have h1 := hr.1
  have h2 := hr.2.1
  have hlen := encL_len (W := W) (H := H) (l := l) hK
  obtain ⟨hh, ht⟩ := encTold (s := strOf (encL K W H l)) (by omega) (by omega) (by omega) (strOf_list _) (by omega) (fun i hi => mayB_iff.1 (mayAll_all hm i hi))
  generalize hS : strOf (encL K W H l) = S at hh ht ⊢
  have hs : S.size ≤ 3 * (W * H) + 2 * H + W + 20 := by rw [← hS, strOfW_size]; exact hlen
  refine (readC14 (s := S) (x0 := Led.new 100 100 40000 100000) rfl (by constructor <;> decide) rfl rfl (by omega) hh (by show ¬ K ≤ 3; omega) hW hH w).mono ?_
  rintro e w' p
  obtain ⟨g, b, hor⟩ := lawFull hh hW hH (by show ((S.size + W * H * 7 + 9 : Nat) : Int) ≤ 100000; omega) p
  rcases hor with ⟨kk, aa, _, _, h, _⟩ | ⟨W', H', l', d, h, he, hb⟩
  · rw [ht] at h; cases h
  · rw [ht] at h
    injection h with e1 e2 e3
    subst e1 e2 e3
    rw [← hl] at he hb
    exact ⟨g, d, he, hb, b⟩
set_option maxRecDepth 100000 in
set_option maxHeartbeats 4000000 in
theorem law14_yes {W H k n c : Nat} {a : Option Addr} {l : List UInt8} {w : World} (hT : TabW w) (hb : BytesAt w a n l) (hl : n = l.length) (hnc : n ≤ c) (hn : n ≤ 1000) (hk : 1 ≤ k ∧ k ≤ 3) (hr : RightP (W : Int) (H : Int) n) (hWb : W ≤ 250) (hHb : H ≤ 250) (hm : mayAll k l (W * H) = true) : LawW (W : Int) (H : Int) n c a ((k + 3 : Nat) : Int) w := by
  have W1 : WjI w (w.alloc (.cells #[.int .i64 (W : Int), .int .i64 (H : Int), .slice a n c] 24)) (W : Int) (H : Int) n c a l := WjI.new hb
  obtain ⟨i0, i1, i2, z0, z1, z2, il⟩ := IB.all W1.I
  have hnI : ¬ (1000 : Int) < (n : Int) := by omega
  have hm3 : mayAll (k + 3) l (W * H) = true := by rw [mayAll_shift k hk]; exact hm
  have HW := Lib.hid (rawWriteC (K := k + 3) (by omega) (hT.below W1.B) hr hl hnc W1.D (by omega) (by omega))
  rw [rawV_yes hm3] at HW
  have HR := Lib.hid (fun w => refRight_bool (a := a) (c := c) (decide_eq_true hr) w)
  have HM := Lib.hid (fun (w : World) (hb : BytesAt w a n l) => refMayC (c := c) hk hr hl hnc hb)
  rw [hm] at HM
  have HWR := Lib.hid (fun (w : World) (hb : BytesAt w a n l) => refWriteC (K := k + 3) (by omega) hr hl hnc hb (by omega) (by omega) hm3)
  have HRD := Lib.hid (fun (hW : W ≤ 100) (hH : H ≤ 100) (w : World) => encRead (K := k + 3) (by omega) hr hl hn hW hH hm3 w)
  obtain ⟨K, hK⟩ : ∃ K, k + 3 = K := ⟨_, rfl⟩
  rw [hK] at HW HWR HRD ⊢
  generalize strOf (encL K W H l) = S at HW HWR HRD
  unfold imgRet at HRD
  have h4 : ¬ (K : Int) < 4 := by omega
  have h6 : ¬ 6 < (K : Int) := by omega
  have h3 : IntKind.i64.wrap ((K : Int) - 3) = (k : Int) := by rw [show (K : Int) - 3 = (k : Int) by omega]; exact IntWalk.i64_in _ (by omega)
  clear hb hr hT hm hl hnc hm3
  unfold LawW
  go_enter Tryz.func4, Tryz.ntmps4
  go_upto_region 12 with (first | (go_at_call 14; refine HW.out.mono ?_; rintro e w1 ⟨b1, rfl⟩; have W2 := W1.below b1; clear i0 i1 i2 z0 z1 z2 il; obtain ⟨i0, i1, i2, z0, z1, z2, il⟩ := IB.all W2.I) | (go_at_call 8; refine (HR.out _).mono ?_; rintro e w3 ⟨rfl, b3⟩; have W3 := W2.below b3; clear i0 i1 i2 z0 z1 z2 il; obtain ⟨i0, i1, i2, z0, z1, z2, il⟩ := IB.all W3.I) | (go_at_call 9; refine (HM.out _ W3.D).mono ?_; rintro e w5 ⟨rfl, b5⟩; have W5 := W3.below b5; clear i0 i1 i2 z0 z1 z2 il; obtain ⟨i0, i1, i2, z0, z1, z2, il⟩ := IB.all W5.I) | (go_at_call 15; refine (HWR.out _ W5.D).mono ?_; rintro e w6 ⟨b6, rfl⟩; have W6 := W5.below b6; clear i0 i1 i2 z0 z1 z2 il; obtain ⟨i0, i1, i2, z0, z1, z2, il⟩ := IB.all W6.I))
  clear W1 W2 W3 W5 b1 b3 b5 b6 HW HWR HR HM
  by_cases hbig : 100 < W ∨ 100 < H
  · by_cases hw : 100 < W
    · have hwI : (100 : Int) < (W : Int) := by omega
      clear HRD
      go_wp2_with (go_at_call 13; refine (awake14_any _).mono ?_; rintro e w7 ⟨rfl, b7⟩)
      go_ret
      exact ⟨rfl, below_next W6.B b7⟩
    · have hwI : ¬ (100 : Int) < (W : Int) := by omega
      have hhI : (100 : Int) < (H : Int) := by omega
      clear HRD
      go_wp2_with (go_at_call 13; refine (awake14_any _).mono ?_; rintro e w7 ⟨rfl, b7⟩)
      go_ret
      exact ⟨rfl, below_next W6.B b7⟩
  · have hwI : ¬ (100 : Int) < (W : Int) := by omega
    have hhI : ¬ (100 : Int) < (H : Int) := by omega
    have HRE := Lib.hid (HRD.out (by omega) (by omega))
    clear HRD hbig
    go_upto_region 15 with (go_at_call 16; refine (HRE.out _).mono ?_; rintro e w7 ⟨g, d, rfl, hbt, b7⟩)
    have X4 := ((W6.below b7).alloc (.cells #[.int .i64 (W : Int), .int .i64 (H : Int), .slice (some ⟨d, 0, none⟩) n n] 24)).alloc (.cells #[.int .i64 0, .int .i64 0, .int .i64 0] 33)
    have T4 : BytesAt ((w7.alloc (.cells #[.int .i64 (W : Int), .int .i64 (H : Int), .slice (some ⟨d, 0, none⟩) n n] 24)).alloc (.cells #[.int .i64 0, .int .i64 0, .int .i64 0] 33)) (some ⟨d, 0, none⟩) n l := (hbt.alloc _).alloc _
    have I4 : IB ((w7.alloc (.cells #[.int .i64 (W : Int), .int .i64 (H : Int), .slice (some ⟨d, 0, none⟩) n n] 24)).alloc (.cells #[.int .i64 0, .int .i64 0, .int .i64 0] 33)) w7.heap.size (W : Int) (H : Int) (some ⟨d, 0, none⟩) n n := Blk.alloc (Blk.new _ _ _) _
    have F4 : FB ((w7.alloc (.cells #[.int .i64 (W : Int), .int .i64 (H : Int), .slice (some ⟨d, 0, none⟩) n n] 24)).alloc (.cells #[.int .i64 0, .int .i64 0, .int .i64 0] 33)) (w7.heap.size + 1) 0 0 0 := Blk.new_at _ _ _ (by simp)
    clear hbt b7 W6 HRE i0 i1 i2 z0 z1 z2 il
    generalize (w7.alloc (.cells #[.int .i64 (W : Int), .int .i64 (H : Int), .slice (some ⟨d, 0, none⟩) n n] 24)).alloc (.cells #[.int .i64 0, .int .i64 0, .int .i64 0] 33) = w8 at X4 T4 I4 F4 ⊢
    generalize w7.heap.size + 1 = qf at F4 ⊢
    generalize w7.heap.size = qm at I4 ⊢
    obtain ⟨i0, i1, i2, z0, z1, z2, il⟩ := IB.all X4.I
    obtain ⟨e0, e1, e2, v0, v1, v2, il2⟩ := IB.all I4
    obtain ⟨c0, c1, c2, y0, y1, y2, fl⟩ := FB.all F4
    go_wp2_with (first | (go_at_call 12; refine (refSame_bool (same_self _ _ _) T4 X4.D).mono ?_; rintro e w9 ⟨rfl, b9⟩) | (go_at_call 13; refine (awake14_any _).mono ?_; rintro e w10 ⟨rfl, b10⟩))
    go_ret
    exact ⟨rfl, below_next (below_next X4.B b9) b10⟩
/-! ### what is laid -/
def laidLw : List (String × DataW Unit) := [("math/bits.deBruijn32tab", Rows.laid_math_bits_deBruijn32tab), ("math/bits.deBruijn64tab", Rows.laid_math_bits_deBruijn64tab), ("internal/strconv.uint64pow10", Rows.laid_internal_strconv_uint64pow10)]
theorem laid_oneW {W : World} (h : laidMetH Tryz.prog laidLw W) (n : String) (x : String × DataW Unit) (e : laidLw.filter (fun y => y.1 == n) = [x]) (hn : x.2.handleName?.isNone = true) : laidMet Tryz.prog [x] W := by
  have h1 := laidMetH.filter (fun y => y.1 == n) h
  rw [e, Go.MakeChecks.laidMetH_plain _ _ _ (by simp [hn])] at h1
  exact h1
theorem pnmrawWrites_law (w : World) (hL : laidMetH Tryz.prog laidLw w) (W H : Int) (a : Option Addr) (n c : Nat) (l : List UInt8) (h : fits5 W ∧ fits5 H ∧ BytesAt w a n l ∧ n ≤ c ∧ c ≤ maxLen) (k : Int) (hk : (Lit.int IntKind.i64 k).wf = true) : Calls Tryz.prog 4 #[.agg #[.int .i64 W, .int .i64 H, .slice a n c], .int .i64 k] w fun e w' => e = .returned (.bool true) ∧ Below w.heap.size w w' := by
  obtain ⟨_, _, hb, hnc, _⟩ := h
  have hT : TabW w := Lib.tabIs_of_head (g := 0) (t := 179) (e := 128) (n := 20) (by kernel_rfl) (by kernel_rfl) (by kernel_rfl) (by kernel_rfl) (by kernel_rfl) (by kernel_rfl) (laid_oneW hL "internal/strconv.uint64pow10" ("internal/strconv.uint64pow10", Lib.tabData .u64 Lib.pow10Tab) (by rfl) (by rfl))
  show LawW W H n c a k w
  have hl : n = l.length := hb.1
  by_cases hn : 1000 < n
  · exact law14_long hb hn
  · by_cases hka : k < 4 ∨ 6 < k
    · exact law14_arg hb (by omega) hka
    · by_cases hr : RightP W H n
      · have h1 := hr.1
        have h2 := hr.2.1
        obtain ⟨W', rfl⟩ : ∃ W' : Nat, W = (W' : Int) := ⟨W.toNat, by omega⟩
        obtain ⟨H', rfl⟩ : ∃ H' : Nat, H = (H' : Int) := ⟨H.toNat, by omega⟩
        obtain ⟨k', rfl⟩ : ∃ k' : Nat, k = ((k' + 3 : Nat) : Int) := ⟨(k - 3).toNat, by omega⟩
        have hwh : 4 * (W' * H') = n := by
          have := hr.2.2
          have e : 4 * (W' : Int) * (H' : Int) = ((4 * (W' * H') : Nat) : Int) := by rw [Int.mul_assoc]; simp
          rw [e] at this
          omega
        have hw1 : W' ≤ W' * H' := Nat.le_mul_of_pos_right _ (by omega)
        have hh1 : H' ≤ W' * H' := Nat.le_mul_of_pos_left _ (by omega)
        cases hm : mayAll k' l (W' * H') with
        | false => exact law14_no hT hb hl hnc (by omega) (by omega) hr (by omega) (by omega) hm
        | true => exact law14_yes hT hb hl hnc (by omega) (by omega) hr (by omega) (by omega) hm
      · exact law14_size hb (by omega) (by omega) hr
end Go.Proofs.YthljhebbblhakaaGreatDoor
