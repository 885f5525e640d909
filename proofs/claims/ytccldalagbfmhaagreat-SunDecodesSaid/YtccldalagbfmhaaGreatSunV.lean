/- The law SunDecodes. -/
import Derived.Test.YtccldalagbfmhaaGreatSunX
namespace Go.Proofs.YtccldalagbfmhaaGreat
open Go.RowKit
set_option linter.unusedVariables false
set_option linter.unusedSimpArgs false

set_option maxRecDepth 100000 in
set_option maxHeartbeats 40000000 in
theorem sunDecodes_img {s : ByteArray} {W H : Nat} {l : List UInt8} (hs : s.size ≤ 1500) (hs16 : 32 ≤ s.size) (u : sunSides s = (W, H)) (hW : 1 ≤ W ∧ W ≤ 60) (hH : 1 ≤ H ∧ H ≤ 60) (t : (sunDec s).told = .img W H l) (w : World) :
    Calls Tryz.prog 4 #[.string s] w fun e w' => e = .returned (.bool true) ∧ Below w.heap.size w w' := by
  have hsI : ¬ (1500 : Int) < (s.size : Int) := by omega
  have hWI : ¬ (60 : Int) < (W : Int) := by omega
  have hHI : ¬ (60 : Int) < (H : Int) := by omega
  have hsm : s.size ≤ 1099511627776 := by omega
  have hNN : W * H ≤ 60 * 60 := Nat.mul_le_mul hW.2 hH.2
  have hN1 : 1 ≤ W * H := Nat.mul_le_mul hW.1 hH.1
  obtain ⟨N, hN⟩ : ∃ N, W * H = N := ⟨_, rfl⟩
  have hl := told_img _ 0 (sunDec_bal s) t
  have hZI : IntKind.i64.wrap (IntKind.i64.wrap (4 * (W : Int)) * (H : Int)) = ((4 * N : Nat) : Int) := by
    rw [IntWalk.i64_in (4 * (W : Int)) (by omega), show 4 * (W : Int) = ((4 * W : Nat) : Int) by omega]
    exact prod3_in (m := 4 * W) (s := H) (p := 4 * N) (by rw [Nat.mul_assoc, hN]) (by omega)
  obtain ⟨z, hz⟩ : ∃ z, 4 * N = z := ⟨_, rfl⟩
  rw [hz] at hZI
  have HR0 := fun w => refSunSides hsm w
  have HN0 := fun w => sunRunW hsm (by rw [u]; exact hW.2) (by rw [u]; exact hH.2) w
  have HD0 := fun w => refSunDecode hsm w
  rw [u] at HR0
  rw [t] at HN0 HD0
  have HR := Lib.hid HR0
  have HN := Lib.hid HN0
  have HD := Lib.hid HD0
  have HH := Lib.hid (fun w => heads29_any hsm w)
  obtain ⟨b, hb1, hb2⟩ := sunIs_same s
  have HI := Lib.hid (fun w => sunIs hb1 w)
  have HB2 := Lib.hid hb2
  have HNE := Lib.hid hN
  have HZ := Lib.hid hz
  have HL := Lib.hid hl
  have HN1 := Lib.hid hN1
  have HNN := Lib.hid hNN
  clear HR0 HN0 HD0 u t hs hb1 hb2 hsm hW hH hl hNN hN1 hN hz
  go_enter Tryz.func4, Tryz.ntmps4
  go_wp2_with (first
    | (go_at_call 14; refine (HR.out _).mono ?_; rintro e w1 ⟨rfl, b1⟩)
    | (go_at_call 22; refine (wide15 _).mono ?_; rintro e w2 ⟨rfl, b2⟩)
    | (go_at_call 15; refine (HN.out _).mono ?_; rintro e w3 ⟨g, y, l3, hy, b3, hor⟩; obtain ⟨W', H', l', d, hr, rfl, hbt⟩ := hor.elim (fun ⟨_, _, _, h, _⟩ => by cases h) id; injection hr with hr1 hr2 hr3; subst hr1 hr2 hr3))
  have hy0 : y.bytes = (z : Int) := by rw [hy]; show ((4 * (W * H) : Nat) : Int) = _; rw [HNE.out, HZ.out]
  have hll : l.length = z := by rw [HL.out, HNE.out, HZ.out]
  have B3 := below_next (below_next b1 b2) b3
  rw [hll] at hbt ⊢
  have I4 : IB ((w3.alloc (.cells #[.int .i64 (W : Int), .int .i64 (H : Int), .slice (some ⟨d, 0, none⟩) z z] 29)).alloc (.cells #[.int .i64 0, .int .i64 0, .int .i64 0] 31)) w3.heap.size (W : Int) (H : Int) (some ⟨d, 0, none⟩) z z := Blk.alloc (Blk.new _ _ _) _
  have F4 : FB ((w3.alloc (.cells #[.int .i64 (W : Int), .int .i64 (H : Int), .slice (some ⟨d, 0, none⟩) z z] 29)).alloc (.cells #[.int .i64 0, .int .i64 0, .int .i64 0] 31)) (w3.heap.size + 1) 0 0 0 := Blk.new_at _ _ _ (by simp)
  have L4 : LedAt ((w3.alloc (.cells #[.int .i64 (W : Int), .int .i64 (H : Int), .slice (some ⟨d, 0, none⟩) z z] 29)).alloc (.cells #[.int .i64 0, .int .i64 0, .int .i64 0] 31)) g y := Blk.alloc (Blk.alloc l3 _) _
  have T4 : BytesAt ((w3.alloc (.cells #[.int .i64 (W : Int), .int .i64 (H : Int), .slice (some ⟨d, 0, none⟩) z z] 29)).alloc (.cells #[.int .i64 0, .int .i64 0, .int .i64 0] 31)) (some ⟨d, 0, none⟩) z l := (hbt.alloc _).alloc _
  have B4 : Below w.heap.size w ((w3.alloc (.cells #[.int .i64 (W : Int), .int .i64 (H : Int), .slice (some ⟨d, 0, none⟩) z z] 29)).alloc (.cells #[.int .i64 0, .int .i64 0, .int .i64 0] 31)) := (B3.alloc B3.size _).alloc (by have := B3.size; simp; omega) _
  generalize (w3.alloc (.cells #[.int .i64 (W : Int), .int .i64 (H : Int), .slice (some ⟨d, 0, none⟩) z z] 29)).alloc (.cells #[.int .i64 0, .int .i64 0, .int .i64 0] 31) = w4 at I4 F4 L4 T4 B4 ⊢
  generalize w3.heap.size + 1 = qf at F4 ⊢
  generalize w3.heap.size = qm at I4 ⊢
  clear b1 b2 b3 B3 l3 hor hbt
  refine (HD.out _).mono ?_
  rintro e w5 ⟨b5, v, L, rfl, own, hfl, hlen⟩
  obtain ⟨gq, cap, rfl, hcap, hq⟩ : ∃ gq cap, v = .slice (some ⟨gq, 0, none⟩) N cap ∧ N ≤ cap ∧ QAt w5 gq 0 L := by
    have hlN : L.length = N := hlen.trans HNE.out
    rcases own.form with ⟨_, h⟩ | ⟨gq, cap, h, _, _, h2, h3⟩
    · have := HN1.out
      rw [h] at hlen
      simp at hlen
      omega
    · exact ⟨gq, cap, by rw [h, hlN], by omega, h3⟩
  have b6 : Below w5.heap.size w5 (w5.alloc (.cells #[.int .i64 (W : Int), .int .i64 (H : Int), .slice (some ⟨gq, 0, none⟩) N cap, .int .i64 0, .int .i64 0] 42)) := (Below.refl _ _).alloc (Nat.le_refl _) _
  have R6 : RI (w5.alloc (.cells #[.int .i64 (W : Int), .int .i64 (H : Int), .slice (some ⟨gq, 0, none⟩) N cap, .int .i64 0, .int .i64 0] 42)) w5.heap.size (W : Int) (H : Int) (.slice (some ⟨gq, 0, none⟩) N cap) 0 0 := Blk.new _ _ _
  have F6 : FB (w5.alloc (.cells #[.int .i64 (W : Int), .int .i64 (H : Int), .slice (some ⟨gq, 0, none⟩) N cap, .int .i64 0, .int .i64 0] 42)) qf 0 0 0 := Blk.alloc (FB.below F4 b5) _
  have I6 : IB (w5.alloc (.cells #[.int .i64 (W : Int), .int .i64 (H : Int), .slice (some ⟨gq, 0, none⟩) N cap, .int .i64 0, .int .i64 0] 42)) qm (W : Int) (H : Int) (some ⟨d, 0, none⟩) z z := Blk.alloc (Blk.below I4 b5 (Blk.lt I4)) _
  have L6 : LedAt (w5.alloc (.cells #[.int .i64 (W : Int), .int .i64 (H : Int), .slice (some ⟨gq, 0, none⟩) N cap, .int .i64 0, .int .i64 0] 42)) g y := Blk.alloc (Blk.below L4 b5 (Blk.lt L4)) _
  have T6 : BytesAt (w5.alloc (.cells #[.int .i64 (W : Int), .int .i64 (H : Int), .slice (some ⟨gq, 0, none⟩) N cap, .int .i64 0, .int .i64 0] 42)) (some ⟨d, 0, none⟩) z l := (T4.below b5).alloc _
  have Q6 : QAt (w5.alloc (.cells #[.int .i64 (W : Int), .int .i64 (H : Int), .slice (some ⟨gq, 0, none⟩) N cap, .int .i64 0, .int .i64 0] 42)) gq 0 L := hq.below b6
  have B6 := below_next (below_next B4 b5) b6
  go_wp2_with fail
  generalize w5.alloc (.cells #[.int .i64 (W : Int), .int .i64 (H : Int), .slice (some ⟨gq, 0, none⟩) N cap, .int .i64 0, .int .i64 0] 42) = w6 at R6 F6 I6 L6 T6 Q6 B6 ⊢
  generalize w5.heap.size = qr at R6 ⊢
  have HLN : Hid (N = L.length) := Lib.hid (hlen.trans HNE.out).symm
  have HFL := Lib.hid hfl
  have HNB : Hid (N ≤ 268435456) := Lib.hid (by have := HNN.out; have := HNE.out; omega)
  clear b5 b6 own hfl hlen hq I4 F4 L4 T4 B4
  have hb : ((s.extract 0 4).toList == [89, 166, 106, 149]) = b := HB2.out.elim (fun h => absurd h.1 (by omega)) (fun h => h.2)
  have h8I : ¬ (s.size : Int) < 4 := by omega
  have h8J : (4 : Int) ≤ (s.size : Int) := by omega
  go_wp2_with (first
    | (go_at_call 25; refine (HH.out _).mono ?_; rintro e w7 ⟨rfl, b7⟩; have F7 := FB.below F6 b7; have R7 : RI w7 qr (W : Int) (H : Int) (.slice (some ⟨gq, 0, none⟩) N cap) 0 0 := Blk.below R6 b7 (Blk.lt R6); have L7 := Blk.below L6 b7 (Blk.lt L6); have I7 : IB w7 qm (W : Int) (H : Int) (some ⟨d, 0, none⟩) z z := Blk.below I6 b7 (Blk.lt I6); have T7 := T6.below b7; have Q7 := Q6.below b7; have B7 := below_next B6 b7; obtain ⟨c0, c1, c2, z0, z1, z2, fl⟩ := FB.all F7; obtain ⟨d0, d1, d2, d3, d4, y0, y1, y2, y3, y4, dl⟩ := RI.all R7; obtain ⟨e0, e1, e2, v0, v1, v2, il⟩ := IB.all I7)
    | (go_at_call 26; refine (HI.out _).mono ?_; rintro e w8 ⟨rfl, rfl⟩))
  go_region_with (first
    | (go_at_call 27; refine (refPlain (w := w7.drew) HLN.out hcap HNB.out Q7).mono ?_; rintro e w8 ⟨d8, c8, rfl, t8, b8⟩; rw [HFL.out, HZ.out] at t8; have F8 : FB w8 qf 0 0 0 := Blk.below (Blk.drew F7) b8 (Blk.lt F7); have L8 : LedAt w8 g y := Blk.below (Blk.drew L7) b8 (Blk.lt L7); have I8 : IB w8 qm (W : Int) (H : Int) (some ⟨d, 0, none⟩) z z := Blk.below (Blk.drew I7) b8 (Blk.lt I7); obtain ⟨e0', e1', e2', v0', v1', v2', il'⟩ := IB.all I8; obtain ⟨c0', c1', c2', z0', z1', z2', fl'⟩ := FB.all F8; have T8 := BytesAt.below (w := w7.drew) T7 b8; have B8 := below_next B7.drew b8; rw [HZ.out])
    | (go_at_call 23; refine (refSame_bool (same_self _ _ _) T8 t8).mono ?_; rintro e w9 ⟨rfl, b9⟩; have L9 : LedAt w9 g y := Blk.below L8 b9 (Blk.lt L8); have B9 := below_next B8 b9)
    | (go_at_call 20; refine (bytes_at L9 hy0).mono ?_; rintro e w10 ⟨rfl, rfl⟩)
    | (go_at_call 13; refine (awake29_any _).mono ?_; rintro e w11 ⟨rfl, b11⟩))
  all_goals go_wp2_with fail
  all_goals go_ret
  all_goals exact ⟨rfl, below_next B9 b11⟩
theorem sunDecodes_wide {s : ByteArray} (hs : s.size ≤ 1500) (u : 60 < (sunSides s).1 ∨ 60 < (sunSides s).2) (w : World) :
    Calls Tryz.prog 4 #[.string s] w fun e w' => e = .returned (.bool true) ∧ Below w.heap.size w w' := by
  have hsI : ¬ (1500 : Int) < (s.size : Int) := by omega
  have HR := Lib.hid (fun w => refSunSides (s := s) (by omega) w)
  generalize (sunSides s).1 = W at u HR
  generalize (sunSides s).2 = H at u HR
  by_cases hW : 60 < W
  · have hWI : (60 : Int) < (W : Int) := by omega
    clear u hs hW
    go_enter Tryz.func4, Tryz.ntmps4
    go_wp2_with (first
      | (go_at_call 14; refine (HR.out _).mono ?_; rintro e w1 ⟨rfl, b1⟩)
      | (go_at_call 13; refine (awake29_any _).mono ?_; rintro e w2 ⟨rfl, b2⟩))
    go_ret
    exact ⟨rfl, below_next b1 b2⟩
  · have hWI : ¬ (60 : Int) < (W : Int) := by omega
    have hHI : (60 : Int) < (H : Int) := by omega
    clear u hs hW
    go_enter Tryz.func4, Tryz.ntmps4
    go_wp2_with (first
      | (go_at_call 14; refine (HR.out _).mono ?_; rintro e w1 ⟨rfl, b1⟩)
      | (go_at_call 13; refine (awake29_any _).mono ?_; rintro e w2 ⟨rfl, b2⟩))
    go_ret
    exact ⟨rfl, below_next b1 b2⟩
theorem sunDecodes_said (w : World) (s : ByteArray) (hs : s.size ≤ maxLen) :
    Calls Tryz.prog 4 #[.string s] w fun e w' => e = .returned (.bool true) ∧ Below w.heap.size w w' := by
  by_cases hlen : s.size ≤ 1500
  · by_cases u : 60 < (sunSides s).1 ∨ 60 < (sunSides s).2
    · exact sunDecodes_wide hlen u w
    · cases sunTold_is s with
      | short h t v => exact sunDecodes_bad hlen (by decide) (.inl v) t w
      | head h k a hk hh t v => exact sunDecodes_bad hlen hk (.inl v) t w
      | body h W H hh hW hH w1 w2 h1 h2 t v =>
        rw [v] at u
        have uW : W ≤ 60 := Nat.le_of_not_lt fun e => u (.inl e)
        have uH : H ≤ 60 := Nat.le_of_not_lt fun e => u (.inr e)
        rcases sunTold_ways hW hH t with ⟨k, a, hk, e⟩ | ⟨l, e⟩
        · exact sunDecodes_bad hlen hk (.inr ⟨W, H, v, uW, uH⟩) e w
        · exact sunDecodes_img hlen h v ⟨w1, uW⟩ ⟨h1, uH⟩ e w
  · have hI : (1500 : Int) < (s.size : Int) := by omega
    go_enter Tryz.func4, Tryz.ntmps4
    go_wp2_with (go_at_call 13; refine (awake29_any _).mono ?_; rintro e w2 ⟨rfl, b2⟩)
    go_ret
    exact ⟨rfl, b2⟩
end Go.Proofs.YtccldalagbfmhaaGreat
