/- pnmraw.Read: all kinds. -/
import Derived.Test.YthljhebbblhakaaGreatDoorEPnmBm
namespace Go.Proofs.YthljhebbblhakaaGreatDoor
open Go.RowKit
set_option linter.unusedVariables false
set_option linter.unusedSimpArgs false

set_option maxRecDepth 100000 in
set_option maxHeartbeats 4000000 in
theorem rawRead_four {w : World} {p g r b d : Nat} {s : ByteArray} {h : HeadR} {y : Led} (hh : HeadOk s h) (hsm : s.size ≤ 1099511627776) (hk4 : h.K = 4) (S0 : SrcAt w p g s 0 s.size h.At) (G0 : LedAt w g y) (R0 : RasAt w r g b (h.W : Int) (h.H : Int) true) (D0 : BufAt w b g d (pixL [] (4 * (h.W * h.H)))) (ok : y.Ok) (hr : y.reason = 0) :
    Calls Tryz.prog 41 #[.pointer (some ⟨p, 0, none⟩), headV5 h, .pointer (some ⟨r, 0, none⟩)] w fun e w' => BodyPost w w' p g r b d s h y e := by
  have u2 : Below w.heap.size w ((w.alloc (.cells #[.int .i64 (h.K : Int), .int .i64 (h.W : Int), .int .i64 (h.H : Int), .int .i64 (h.M : Int), .int .i64 (h.At : Int)] 61)).alloc (.cells #[.int .i64 0, .int .i64 0, .int .i64 0] 33)) := ((Below.refl _ _).alloc (Nat.le_refl _) _).alloc (by simp) _
  have F2 : FB ((w.alloc (.cells #[.int .i64 (h.K : Int), .int .i64 (h.W : Int), .int .i64 (h.H : Int), .int .i64 (h.M : Int), .int .i64 (h.At : Int)] 61)).alloc (.cells #[.int .i64 0, .int .i64 0, .int .i64 0] 33)) (w.heap.size + 1) 0 0 0 := Blk.new_at _ _ _ (by simp)
  have hpw := Blk.lt S0
  have hgw := Blk.lt G0
  have hdw : d < w.heap.size := Blk.lt D0.row
  have HBM := Lib.hid (bitmapC hh hsm hk4 (Blk.below S0 u2 (Blk.lt S0)) (Blk.below G0 u2 (Blk.lt G0)) (Blk.below R0 u2 (Blk.lt R0)) ⟨Blk.below D0.blk u2 (Blk.lt D0.blk), Blk.below D0.row u2 (Blk.lt D0.row)⟩ ok hr)
  unfold headV5 at HBM
  have k4 : ((h.K : Int) == 4) = true := by rw [beq_iff_eq]; omega
  have HU := Lib.hid u2
  unfold headV5
  clear u2 S0 G0 R0 D0 ok hr hh hsm hk4
  go_enter Tryz.func41, Tryz.ntmps41
  go_wp2_with (go_at_call 62; refine HBM.out.mono ?_; rintro e w5 hB; unfold BodyPost at hB; obtain ⟨y5, l5, g5, ok5, yb5, t5, r5, d5, hl5, hor⟩ := hB; have F5 : FB w5 (w.heap.size + 1) 0 0 0 := FB.turn F2 t5 (by simp only [List.mem_cons, List.not_mem_nil, or_false, not_or]; omega); obtain ⟨f0, f1, f2, z0, z1, z2, fl⟩ := FB.all F5; have HK := Lib.hid (And.intro g5 (And.intro ok5 (And.intro yb5 (And.intro ((Turn.of_below HU.out).trans t5) (And.intro r5 (And.intro d5 hl5)))))); clear g5 ok5 yb5 t5 r5 d5 hl5; rcases hor with ⟨kk, aa, hk, rfl, run⟩ | ⟨rfl, yr, L, hL, hl, run⟩)
  · have HOR : Hid ((∃ kk' aa' : Nat, kk' ≠ 0 ∧ Ending.returned (.agg #[.int .i64 (kk : Int), .int .i64 3, .int .i64 (aa : Int)]) = .returned (.agg #[.int .i64 (kk' : Int), .int .i64 3, .int .i64 (aa' : Int)]) ∧ ∀ z, (bodyD s h z).run y = ((y5.give (z : Int)).1, .bad kk' aa')) ∨ (Ending.returned (.agg #[.int .i64 (kk : Int), .int .i64 3, .int .i64 (aa : Int)]) = .returned (.agg #[.int .i64 0, .int .i64 0, .int .i64 0]) ∧ y5.reason = 0 ∧ ∃ L : List Qc, L.length = h.W * h.H ∧ l5 = flat L ∧ ∀ z, (bodyD s h z).run y = (y5, .img h.W h.H (flat L)))) := Lib.hid (.inl ⟨kk, aa, hk, rfl, run⟩)
    clear hk run
    have F6 : FB (st3 w5 (w.heap.size + 1) (.int .i64 (kk : Int)) (.int .i64 3) (.int .i64 (aa : Int))) (w.heap.size + 1) (kk : Int) 3 (aa : Int) := FB.st3 F5
    obtain ⟨k0, k1, k2, _⟩ := FB.all F6
    change bodyPost _ _ _ _ _ (st3 w5 (w.heap.size + 1) (.int .i64 (kk : Int)) (.int .i64 3) (.int .i64 (aa : Int)))
    exact bodyPost_ret (v := .agg #[.int .i64 (kk : Int), .int .i64 3, .int .i64 (aa : Int)]) (by simp [results, Tryz.results41, go_sem, k0, k1, k2]) rfl ⟨y5, l5, Blk.st3 HK.out.1 (Blk.ne_ HK.out.1 F5 (by decide)), HK.out.2.1, HK.out.2.2.1, Turn.st3 HK.out.2.2.2.1 (.inr (by omega)), Blk.st3 HK.out.2.2.2.2.1 (Blk.ne_ HK.out.2.2.2.2.1 F5 (by decide)), ⟨Blk.st3 HK.out.2.2.2.2.2.1.blk (Blk.ne_ HK.out.2.2.2.2.2.1.blk F5 (by decide)), Blk.st3 HK.out.2.2.2.2.2.1.row (Blk.ne_ HK.out.2.2.2.2.2.1.row F5 (by decide))⟩, HK.out.2.2.2.2.2.2, HOR.out⟩
  · have HOR : Hid ((∃ kk' aa' : Nat, kk' ≠ 0 ∧ Ending.returned (.agg #[.int .i64 0, .int .i64 0, .int .i64 0]) = .returned (.agg #[.int .i64 (kk' : Int), .int .i64 3, .int .i64 (aa' : Int)]) ∧ ∀ z, (bodyD s h z).run y = ((y5.give (z : Int)).1, .bad kk' aa')) ∨ (Ending.returned (.agg #[.int .i64 0, .int .i64 0, .int .i64 0]) = .returned (.agg #[.int .i64 0, .int .i64 0, .int .i64 0]) ∧ y5.reason = 0 ∧ ∃ L : List Qc, L.length = h.W * h.H ∧ l5 = flat L ∧ ∀ z, (bodyD s h z).run y = (y5, .img h.W h.H (flat L)))) := Lib.hid (.inr ⟨rfl, yr, L, hL, hl, run⟩)
    clear yr hL hl run
    have F6 : FB (st3 w5 (w.heap.size + 1) (.int .i64 0) (.int .i64 0) (.int .i64 0)) (w.heap.size + 1) 0 0 0 := FB.st3 F5
    obtain ⟨k0, k1, k2, _⟩ := FB.all F6
    change bodyPost _ _ _ _ _ (st3 w5 (w.heap.size + 1) (.int .i64 0) (.int .i64 0) (.int .i64 0))
    exact bodyPost_ret (v := .agg #[.int .i64 0, .int .i64 0, .int .i64 0]) (by simp [results, Tryz.results41, go_sem, k0, k1, k2]) rfl ⟨y5, l5, Blk.st3 HK.out.1 (Blk.ne_ HK.out.1 F5 (by decide)), HK.out.2.1, HK.out.2.2.1, Turn.st3 HK.out.2.2.2.1 (.inr (by omega)), Blk.st3 HK.out.2.2.2.2.1 (Blk.ne_ HK.out.2.2.2.2.1 F5 (by decide)), ⟨Blk.st3 HK.out.2.2.2.2.2.1.blk (Blk.ne_ HK.out.2.2.2.2.2.1.blk F5 (by decide)), Blk.st3 HK.out.2.2.2.2.2.1.row (Blk.ne_ HK.out.2.2.2.2.2.1.row F5 (by decide))⟩, HK.out.2.2.2.2.2.2, HOR.out⟩
theorem rawReadC {w : World} {p g r b d : Nat} {s : ByteArray} {h : HeadR} {y : Led} (hh : HeadOk s h) (hsm : s.size ≤ 1099511627776) (hK : ¬ h.K ≤ 3) (S0 : SrcAt w p g s 0 s.size h.At) (G0 : LedAt w g y) (R0 : RasAt w r g b (h.W : Int) (h.H : Int) true) (D0 : BufAt w b g d (pixL [] (4 * (h.W * h.H)))) (ok : y.Ok) (hr : y.reason = 0) :
    Calls Tryz.prog 41 #[.pointer (some ⟨p, 0, none⟩), headV5 h, .pointer (some ⟨r, 0, none⟩)] w fun e w' => BodyPost w w' p g r b d s h y e := by
  by_cases h4 : h.K = 4
  · exact rawRead_four hh hsm h4 S0 G0 R0 D0 ok hr
  · by_cases h6 : h.K = 6
    · exact rawRead_six hh hsm hK h4 h6 S0 G0 R0 D0 ok hr
    · exact rawRead_five hh hsm hK h4 h6 S0 G0 R0 D0 ok hr
end Go.Proofs.YthljhebbblhakaaGreatDoor
