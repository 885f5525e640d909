/- pnmraw.bitmap: rows of bits. -/
import Derived.Test.YthljhebbblhakaaGreatDoorEPnmB
import Derived.Test.YthljhebbblhakaaGreatDoorEPnmRawS
namespace Go.Proofs.YthljhebbblhakaaGreatDoor
open Go.RowKit
set_option linter.unusedVariables false
set_option linter.unusedSimpArgs false

structure TBI (w0 w : World) (p g x r b d f : Nat) (s : ByteArray) (h : HeadR) (N a now left : Nat) (L : List Qc) (y : Led) : Prop where
  S : SrcAt w p g s 0 s.size a
  G : LedAt w g y
  X : BiA w x p now left
  R : RasAt w r g b (h.W : Int) (h.H : Int) true
  D : BufAt w b g d (pixL L (4 * N))
  F : FB w f 0 0 0
  U : Blk w w0.heap.size 61 #[.int .i64 (h.K : Int), .int .i64 (h.W : Int), .int .i64 (h.H : Int), .int .i64 (h.M : Int), .int .i64 (h.At : Int)]
  T : Turn [p, g, x, d] w0 w
  ok : y.Ok
section
variable {w0 w w' : World} {p g x r b d f : Nat} {s : ByteArray} {h : HeadR} {N a a' now now' left left' : Nat} {L L' : List Qc} {y y' : Led}
theorem TBI.bit (I : TBI w0 w p g x r b d f s h N a now left L y) (k : Turn [p, g, x] w w') (S' : SrcAt w' p g s 0 s.size a') (G' : LedAt w' g y') (X' : BiA w' x p now' left') (ok' : y'.Ok) : TBI w0 w' p g x r b d f s h N a' now' left' L y' := by
  refine ⟨S', G', X', Blk.turn I.R k ?_, I.D.turn k ?_ ?_, FB.turn I.F k ?_, Blk.turn I.U k ?_, I.T.trans (k.mono (by simp)), ok'⟩
  all_goals simp only [List.mem_cons, List.not_mem_nil, or_false, not_or]
  · exact ⟨Blk.ne_ I.R I.S (by decide), Blk.ne_ I.R I.G (by decide), Blk.ne_ I.R I.X (by decide)⟩
  · exact ⟨Blk.ne_ I.D.blk I.S (by decide), Blk.ne_ I.D.blk I.G (by decide), Blk.ne_ I.D.blk I.X (by decide)⟩
  · exact ⟨Blk.ne_ I.D.row I.S (by decide), Blk.ne_ I.D.row I.G (by decide), Blk.ne_ I.D.row I.X (by decide)⟩
  · exact ⟨Blk.ne_ I.F I.S (by decide), Blk.ne_ I.F I.G (by decide), Blk.ne_ I.F I.X (by decide)⟩
  · exact ⟨Blk.ne_ I.U I.S (by decide), Blk.ne_ I.U I.G (by decide), Blk.ne_ I.U I.X (by decide)⟩
theorem TBI.only (I : TBI w0 w p g x r b d f s h N a now left L y) (k : Turn [x] w w') (X' : BiA w' x p now' left') : TBI w0 w' p g x r b d f s h N a now' left' L y :=
  I.bit (k.mono (by simp)) (I.S.turn k (by simpa using Blk.ne_ I.S I.X (by decide))) (I.G.turn k (by simpa using Blk.ne_ I.G I.X (by decide))) X' I.ok
theorem TBI.below (I : TBI w0 w p g x r b d f s h N a now left L y) (k : Below w.heap.size w w') : TBI w0 w' p g x r b d f s h N a now left L y :=
  I.bit (Turn.of_below k) (Blk.below I.S k (Blk.lt I.S)) (Blk.below I.G k (Blk.lt I.G)) (Blk.below I.X k (Blk.lt I.X)) I.ok
theorem TBI.set (I : TBI w0 w p g x r b d f s h N a now left L y) (k : Turn [g, d] w w') (B' : BufAt w' b g d (pixL L' (4 * N))) (G' : LedAt w' g y') (ok' : y'.Ok) : TBI w0 w' p g x r b d f s h N a now left L' y' := by
  refine ⟨I.S.turn k ?_, G', Blk.turn I.X k ?_, Blk.turn I.R k ?_, B', FB.turn I.F k ?_, Blk.turn I.U k ?_, I.T.trans (k.mono (by simp)), ok'⟩
  all_goals simp only [List.mem_cons, List.not_mem_nil, or_false, not_or]
  · exact ⟨Blk.ne_ I.S I.G (by decide), Blk.ne_ I.S I.D.row (by decide)⟩
  · exact ⟨Blk.ne_ I.X I.G (by decide), Blk.ne_ I.X I.D.row (by decide)⟩
  · exact ⟨Blk.ne_ I.R I.G (by decide), Blk.ne_ I.R I.D.row (by decide)⟩
  · exact ⟨Blk.ne_ I.F I.G (by decide), Blk.ne_ I.F I.D.row (by decide)⟩
  · exact ⟨Blk.ne_ I.U I.G (by decide), Blk.ne_ I.U I.D.row (by decide)⟩
theorem TBI.fin {u v e : Value} (I : TBI w0 w p g x r b d f s h N a now left L y) (hq : w0.heap.size ≤ x) (hf : w0.heap.size ≤ f) : LedAt (st3 w f u v e) g y ∧ Turn [p, g, d] w0 (st3 w f u v e) ∧ RasAt (st3 w f u v e) r g b (h.W : Int) (h.H : Int) true ∧ BufAt (st3 w f u v e) b g d (pixL L (4 * N)) := by
  refine ⟨Blk.st3 I.G (Blk.ne_ I.G I.F (by decide)), Turn.st3 ⟨I.T.os, I.T.tape, I.T.output, I.T.size, fun i hi hn => I.T.block i hi ?_⟩ (.inr hf), Blk.st3 I.R (Blk.ne_ I.R I.F (by decide)), ⟨Blk.st3 I.D.blk (Blk.ne_ I.D.blk I.F (by decide)), Blk.st3 I.D.row (Blk.ne_ I.D.row I.F (by decide))⟩⟩
  simp only [List.mem_cons, List.not_mem_nil, or_false, not_or] at hn ⊢
  exact ⟨hn.1, hn.2.1, by omega, hn.2.2⟩
/-- one bit of a row, whether its byte was read or not -/
def RowBit (w w' : World) (p g x : Nat) (s : ByteArray) (W X a now : Nat) (y : Led) (e : Ending) : Prop :=
  ∃ y2, y2.Ok ∧ y2.bytes = y.bytes ∧ LedAt w' g y2 ∧ Turn [p, g, x] w w' ∧
    ((∃ kk aa n2 l2, kk ≠ 0 ∧ e = .returned (.tuple #[.int .i64 0, .bool false]) ∧ SrcAt w' p g s 0 s.size a ∧ NoRead y2 a s.size kk aa ∧ BiA w' x p n2 l2 ∧ ∀ (z : Nat) k, (bpixD s W z (X, a, now) k).run y = ((y2.give (z : Int)).1, .bad kk aa)) ∨
     (∃ (v a2 n2 l2 : Nat), v ≤ 1 ∧ e = .returned (.tuple #[.int .i64 (v : Int), .bool true]) ∧ a2 ≤ s.size ∧ SrcAt w' p g s 0 s.size a2 ∧ y2.reason = 0 ∧ BiA w' x p n2 l2 ∧ n2 < 256 ∧ l2 = 7 - X % 8 ∧
       ∀ (z : Nat) k, (bpixD s W z (X, a, now) k).run y = (k (grayQ (UInt8.ofNat (255 * (1 - v))), (if X + 1 = W then 0 else X + 1), a2, n2)).run y2))
theorem rowBitC {W X : Nat} (I : TBI w0 w p g x r b d f s h N a now left L y) (ha : a ≤ s.size) (hsm : s.size ≤ 1099511627776) (hy : y.reason = 0) (hnow : now < 256) (hl : left = (8 - X % 8) % 8) : Calls Tryz.prog 86 #[.pointer (some ⟨x, 0, none⟩), .int .i64 1] w fun e w' => RowBit w w' p g x s W X a now y e := by
  by_cases h0 : X % 8 = 0
  · obtain rfl : left = 0 := by omega
    refine (bitsRead_new I.X I.S ⟨Nat.zero_le _, ha, Nat.le_refl _, hsm⟩ I.G I.ok hy).mono ?_
    rintro e w' ⟨y2, g2, ok2, yb2, t2, hor⟩
    refine ⟨y2, ok2, yb2, g2, t2, ?_⟩
    rcases hor with ⟨kk, aa, he, s2, nr, run, b2⟩ | ⟨he, s2, yr2, hle, hwk, b2⟩
    · refine .inl ⟨kk, aa, now, 0, by rcases nr with ⟨_, rfl, _⟩ | ⟨_, rfl, _⟩ <;> decide, he, s2, nr, b2, fun z k => ?_⟩
      unfold bpixD
      rw [if_pos h0]
      exact run z (k (bitQ (bat s a) 0, (if X + 1 = W then 0 else X + 1), a + 1, bat s a))
    · refine .inr ⟨bat s a / 2 ^ 7 % 2, a + 1, bat s a, 7, by omega, he, hle, s2, yr2, b2, bat_lt s a, by omega, fun z k => ?_⟩
      unfold bpixD
      rw [if_pos h0]
      unfold byteD
      rw [run_work_yes hwk, if_pos (show (X, a, now).2.1 < s.size from hle)]
      rfl
  · obtain ⟨lf, rfl⟩ : ∃ lf, left = lf + 1 := ⟨left - 1, by omega⟩
    refine (bitsRead_left I.X hnow (by omega)).mono ?_
    rintro e w' ⟨he, b2, t2⟩
    refine ⟨y, I.ok, rfl, I.G.turn t2 (by simpa using Blk.ne_ I.G I.X (by decide)), t2.mono (by simp), .inr ⟨now / 2 ^ lf % 2, a, now, lf, by omega, he, ha, I.S.turn t2 (by simpa using Blk.ne_ I.S I.X (by decide)), hy, b2, hnow, by omega, fun z k => ?_⟩⟩
    unfold bpixD bitQ
    rw [if_neg h0, show 7 - X % 8 = lf by omega]
end
set_option maxRecDepth 100000 in
set_option maxHeartbeats 8000000 in
theorem bitmapC {w : World} {p g r b d : Nat} {s : ByteArray} {h : HeadR} {y : Led} (hh : HeadOk s h) (hsm : s.size ≤ 1099511627776) (hk4 : h.K = 4) (S0 : SrcAt w p g s 0 s.size h.At) (G0 : LedAt w g y) (R0 : RasAt w r g b (h.W : Int) (h.H : Int) true) (D0 : BufAt w b g d (pixL [] (4 * (h.W * h.H)))) (ok : y.Ok) (hr : y.reason = 0) :
    Calls Tryz.prog 62 #[.pointer (some ⟨p, 0, none⟩), headV5 h, .pointer (some ⟨r, 0, none⟩)] w fun e w' => BodyPost w w' p g r b d s h y e := by
  obtain ⟨N, hN⟩ : ∃ N, h.W * h.H = N := ⟨_, rfl⟩
  have hP : N ≤ 268435456 := by rw [← hN]; exact Nat.mul_le_mul hh.W.2 hh.H.2
  rw [hN] at D0
  have u3 : Below w.heap.size w ((w.alloc (.cells #[.int .i64 (h.K : Int), .int .i64 (h.W : Int), .int .i64 (h.H : Int), .int .i64 (h.M : Int), .int .i64 (h.At : Int)] 61)).alloc (.cells #[.int .i64 0, .int .i64 0, .int .i64 0] 33)) := ((Below.refl _ _).alloc (Nat.le_refl _) _).alloc (by simp) _
  have S3 := Blk.below S0 u3 (Blk.lt S0)
  have G3 := Blk.below G0 u3 (Blk.lt G0)
  have R3 := Blk.below R0 u3 (Blk.lt R0)
  have D3 : BufAt ((w.alloc (.cells #[.int .i64 (h.K : Int), .int .i64 (h.W : Int), .int .i64 (h.H : Int), .int .i64 (h.M : Int), .int .i64 (h.At : Int)] 61)).alloc (.cells #[.int .i64 0, .int .i64 0, .int .i64 0] 33)) b g d (pixL [] (4 * N)) := ⟨Blk.below D0.blk u3 (Blk.lt D0.blk), Blk.below D0.row u3 (Blk.lt D0.row)⟩
  have H3 : Blk ((w.alloc (.cells #[.int .i64 (h.K : Int), .int .i64 (h.W : Int), .int .i64 (h.H : Int), .int .i64 (h.M : Int), .int .i64 (h.At : Int)] 61)).alloc (.cells #[.int .i64 0, .int .i64 0, .int .i64 0] 33)) w.heap.size 61 #[.int .i64 (h.K : Int), .int .i64 (h.W : Int), .int .i64 (h.H : Int), .int .i64 (h.M : Int), .int .i64 (h.At : Int)] := Blk.alloc (Blk.new _ _ _) _
  have F3 : FB ((w.alloc (.cells #[.int .i64 (h.K : Int), .int .i64 (h.W : Int), .int .i64 (h.H : Int), .int .i64 (h.M : Int), .int .i64 (h.At : Int)] 61)).alloc (.cells #[.int .i64 0, .int .i64 0, .int .i64 0] 33)) (w.heap.size + 1) 0 0 0 := Blk.new_at _ _ _ (by simp)
  have hdw : d < w.heap.size := Blk.lt D0.row
  have HH := Lib.hid (And.intro hh (And.intro hsm (And.intro hN (And.intro ok (And.intro hr (And.intro hP hk4))))))
  unfold headV5
  clear S0 G0 R0 D0 hN ok hr hh hsm hk4
  go_enter Tryz.func62, Tryz.ntmps62
  go_upto_region 1 with fail
  generalize ((w.alloc (.cells #[.int .i64 (h.K : Int), .int .i64 (h.W : Int), .int .i64 (h.H : Int), .int .i64 (h.M : Int), .int .i64 (h.At : Int)] 61)).alloc (.cells #[.int .i64 0, .int .i64 0, .int .i64 0] 33)) = w3 at u3 S3 G3 R3 D3 H3 F3 ⊢
  have HB := Lib.hid (And.intro u3 (And.intro S3 (And.intro G3 (And.intro R3 (And.intro D3 (And.intro H3 F3))))))
  have hf3 := Blk.lt F3
  clear u3 S3 G3 R3 D3 H3 F3
  go_upto_region 2 with (go_at_call 85; refine bitsNewC.mono ?_; rintro e w4 ⟨x, rfl, hxn, X4, b4⟩)
  have hqw : w.heap.size ≤ x := by omega
  have I5 : TBI w w4 p g x r b d (w.heap.size + 1) s h N h.At 0 0 [] y := by
    have B := HB.out
    exact ⟨Blk.below B.2.1 b4 (Blk.lt B.2.1), Blk.below B.2.2.1 b4 (Blk.lt B.2.2.1), X4, Blk.below B.2.2.2.1 b4 (Blk.lt B.2.2.2.1), ⟨Blk.below B.2.2.2.2.1.blk b4 (Blk.lt B.2.2.2.2.1.blk), Blk.below B.2.2.2.2.1.row b4 (Blk.lt B.2.2.2.2.1.row)⟩, Blk.below B.2.2.2.2.2.2 b4 (Blk.lt B.2.2.2.2.2.2), Blk.below B.2.2.2.2.2.1 b4 (Blk.lt B.2.2.2.2.2.1), Turn.of_below (below_next B.1 b4), HH.out.2.2.2.1⟩
  clear X4 b4 HB hxn hf3
  have h2 : w4.cell? ⟨w.heap.size, 2, none⟩ = some (.int .i64 (h.H : Int)) := Blk.cell I5.U 2
  have HI5 := Lib.hid I5
  clear I5
  go_upto_region 3 with fail
  clear h2
  go_loopg [9, 10, 11, 12, 13, 21] h.H (fun k v9 v10 v11 v12 v13 v21 wr => ∃ (Y a2 now : Nat) (y2 : Led) (L : List Qc), Y + k = h.H ∧ v21 = .int .i64 (Y : Int) ∧ Hid (L.length = Y * h.W ∧ TBI w wr p g x r b d (w.heap.size + 1) s h N a2 now 0 L y2 ∧ a2 ≤ s.size ∧ y2.reason = 0 ∧ y2.bytes = y.bytes ∧ now < 256 ∧ ∀ z, (bodyD s h z).run y = (pixsD h.W h.H z (bpixD s h.W z) (fun t => t.2.1) (N - L.length) (0, a2, now) L).run y2))
  case atStart => exact ⟨0, h.At, 0, y, [], by omega, rfl, Lib.hid ⟨by simp, HI5.out, HH.out.1.At, HH.out.2.2.2.2.1, rfl, by decide, fun z => by unfold bodyD; rw [if_neg (by have := HH.out.2.2.2.2.2.2; omega), if_pos HH.out.2.2.2.2.2.2, HH.out.2.2.1]; rfl⟩⟩
  case round =>
    clear HI5
    obtain ⟨Y, a2, now, y2, L, hY, rfl, HX⟩ := hrel
    have hH1 : h.H ≤ 16384 := HH.out.1.H.2
    have hW1 : h.W ≤ 16384 := HH.out.1.W.2
    by_cases hYH : Y < h.H
    · have hYI : (Y : Int) < (h.H : Int) := by omega
      have HYY := Lib.hid (And.intro hY hYH)
      have h1 : wr.cell? ⟨w.heap.size, 1, none⟩ = some (.int .i64 (h.W : Int)) := Blk.cell HX.out.2.1.U 1
      clear hY
      obtain ⟨wy, hwy⟩ : ∃ v, v = wr := ⟨_, rfl⟩
      subst hwy
      go_upto_region 6 with fail
      clear h1
      go_loopg [10, 11, 12, 13, 26] h.W (fun k v10 v11 v12 v13 v26 wr => ∃ (X a3 n3 l3 : Nat) (y3 : Led) (L3 : List Qc), X + k = h.W ∧ v26 = .int .i64 (X : Int) ∧ Hid (L3.length = Y * h.W + X ∧ TBI w wr p g x r b d (w.heap.size + 1) s h N a3 n3 l3 L3 y3 ∧ a3 ≤ s.size ∧ y3.reason = 0 ∧ y3.bytes = y.bytes ∧ n3 < 256 ∧ (X < h.W → l3 = (8 - X % 8) % 8) ∧ ∀ z, (bodyD s h z).run y = (pixsD h.W h.H z (bpixD s h.W z) (fun t => t.2.1) (N - L3.length) (if X = h.W then 0 else X, a3, n3) L3).run y3))
      case atStart => exact ⟨0, a2, now, 0, y2, L, by omega, rfl, Lib.hid ⟨by rw [HX.out.1]; rfl, HX.out.2.1, HX.out.2.2.1, HX.out.2.2.2.1, HX.out.2.2.2.2.1, HX.out.2.2.2.2.2.1, fun _ => rfl, fun z => by rw [ite_self]; exact HX.out.2.2.2.2.2.2 z⟩⟩
      case round =>
        clear HX
        obtain ⟨X, a3, n3, l3, y3, L3, hX, rfl, HZ⟩ := hrel
        by_cases hXW : X < h.W
        · have hXI : (X : Int) < (h.W : Int) := by omega
          have HXX := Lib.hid (And.intro hX hXW)
          have HP0 := rowBitC (W := h.W) (X := X) HZ.out.2.1 HZ.out.2.2.1 HH.out.2.1 HZ.out.2.2.2.1 HZ.out.2.2.2.2.2.1 (HZ.out.2.2.2.2.2.2.1 hXW)
          unfold RowBit at HP0
          have HP := Lib.hid HP0
          clear HP0 hX
          go_upto_region 9 with (go_at_call 86; refine HP.out.mono ?_; rintro e w6 ⟨y6, ok6, yb6, g6, t6, hor⟩; rcases hor with ⟨kk, aa, n6, l6, hk, rfl, s6, nr, x6, run⟩ | ⟨v, a6, n6, l6, hv1, rfl, ha6, s6, yr6, x6, hn6, hl6, run⟩)
          · have I6 := HZ.out.2.1.bit t6 s6 g6 x6 ok6
            have HI6 := Lib.hid I6
            have HNR := Lib.hid nr
            have HR := Lib.hid (And.intro run (And.intro hk (And.intro ok6 yb6)))
            clear I6 nr run hk ok6 yb6 t6 s6 g6 x6 HP
            go_wp2_with (go_at_call 43; refine (srcFault_is 3 HI6.out.S HI6.out.G HNR.out).mono ?_; rintro e w9 ⟨rfl, b9⟩; have I9 := HI6.out.below b9; obtain ⟨f0, f1, f2, z0, z1, z2, fl⟩ := FB.all I9.F)
            have F10 : FB (st3 w9 (w.heap.size + 1) (.int .i64 (kk : Int)) (.int .i64 3) (.int .i64 (aa : Int))) (w.heap.size + 1) (kk : Int) 3 (aa : Int) := FB.st3 I9.F
            obtain ⟨k0, k1, k2, _⟩ := FB.all F10
            have fin := I9.fin (u := .int .i64 (kk : Int)) (v := .int .i64 3) (e := .int .i64 (aa : Int)) hqw (by omega)
            change bodyPost _ _ _ _ _ (st3 w9 (w.heap.size + 1) (.int .i64 (kk : Int)) (.int .i64 3) (.int .i64 (aa : Int)))
            exact bodyPost_ret (v := .agg #[.int .i64 (kk : Int), .int .i64 3, .int .i64 (aa : Int)]) (by simp [results, Tryz.results62, go_sem, k0, k1, k2]) rfl ⟨y6, pixL L3 (4 * N), fin.1, HR.out.2.2.1, HR.out.2.2.2.trans HZ.out.2.2.2.2.1, fin.2.1, fin.2.2.1, fin.2.2.2, by rw [pixL_len (by have := pos_lt HZ.out.1 HYY.out.2 HXX.out.2 HH.out.2.2.1; omega), HH.out.2.2.1], .inl ⟨kk, aa, HR.out.2.1, rfl, fun z => by rw [HZ.out.2.2.2.2.2.2.2, show N - L3.length = N - L3.length - 1 + 1 by have := pos_lt HZ.out.1 HYY.out.2 HXX.out.2 HH.out.2.2.1; omega, if_neg (by have := HXX.out.2; omega)]; exact HR.out.1 z _⟩⟩
          · have hb1 : IntKind.i64.wrap (1 - (v : Int)) = ((1 - v : Nat) : Int) := by rw [Int.ofNat_sub hv1]; exact IntWalk.i64_in _ (by omega)
            have hb2 : IntKind.i64.wrap (255 * ((1 - v : Nat) : Int)) = ((255 * (1 - v) : Nat) : Int) := by rw [Int.natCast_mul]; exact IntWalk.i64_in _ (by omega)
            have hu : 255 * (1 - v) ≤ 255 := by omega
            have I6 := HZ.out.2.1.bit t6 s6 g6 x6 ok6
            generalize 1 - v = u1 at hb1 hb2 hu run
            generalize 255 * u1 = u2 at hb2 hu run
            have hb3 : IntKind.u8.wrap (u2 : Int) = ((UInt8.ofNat u2).toNat : Int) := by rw [UInt8.toNat_ofNat', Nat.mod_eq_of_lt (by omega)]; exact IntWalk.u8_in _ (by omega)
            generalize UInt8.ofNat u2 = c at hb3 run
            have hpos : Y * h.W + X + 1 ≤ N := by
              have h1 := HYY.out.2
              have h2 := Nat.mul_le_mul_right h.W (show Y + 1 ≤ h.H by omega)
              rw [Nat.add_mul, Nat.one_mul, Nat.mul_comm h.H, HH.out.2.2.1] at h2
              omega
            obtain ⟨P, hPe⟩ : ∃ P, Y * h.W = P := ⟨_, rfl⟩
            rw [hPe] at hpos
            have hL3 : L3.length = P + X := by rw [HZ.out.1, hPe]
            have hpl : (pixL L3 (4 * N)).length = 4 * N := pixL_len (by omega)
            have hov : over (pixL L3 (4 * N)) (4 * (P + X)) [(grayQ c).r, (grayQ c).g, (grayQ c).b, (grayQ c).a] = pixL (L3 ++ [grayQ c]) (4 * N) := by rw [← hL3]; exact pixL_next (grayQ c) (by omega)
            have HSET : Hid (∀ w8, TBI w w8 p g x r b d (w.heap.size + 1) s h N a6 n6 l6 L3 y6 → Calls Tryz.prog 60 #[.pointer (some ⟨r, 0, none⟩), .int .i64 (X : Int), .int .i64 (Y : Int), .agg #[.int .u8 (c.toNat : Int), .int .u8 (c.toNat : Int), .int .u8 (c.toNat : Int), .int .u8 255]] w8 fun e w' => SetPost w8 w' b g d (4 * (P + X)) (pixL L3 (4 * N)) [(grayQ c).r, (grayQ c).g, (grayQ c).b, (grayQ c).a] y6 e) := Lib.hid (fun w8 I8 => rasSet_ways (c0 := c) (c1 := c) (c2 := c) (c3 := 255) (i := 4 * (P + X)) I8.R I8.D I8.G I8.ok yr6 hXW HYY.out.2 hPe rfl (by omega) HH.out.1.W.2 HH.out.1.H.2 (by rw [hpl]; omega) (by rw [hpl]; omega))
            have HOV := Lib.hid hov
            have HR := Lib.hid (And.intro run (And.intro ha6 (And.intro hn6 (And.intro hl6 (yb6.trans HZ.out.2.2.2.2.1)))))
            have HI6 := Lib.hid I6
            have HOP := Lib.hid (opaqueC c c c)
            clear I6 run ha6 yr6 hn6 hl6 yb6 ok6 t6 s6 g6 x6 HP hov hpl hL3 hpos hPe hu hv1
            go_wp2_with (first
              | (go_at_call 87; refine (HOP.out _).mono ?_; rintro e w8 ⟨rfl, b8⟩; have HI8 := Lib.hid (HI6.out.below b8))
              | (go_at_call 60; refine (HSET.out _ HI8.out).mono ?_; rintro e w9 ⟨y9, g9, ok9, yb9, hor⟩; rcases hor with ⟨rfl, t9, hno, run9⟩ | ⟨rfl, t9, D9, yr9, run9⟩))
            · have I9 : TBI w w9 p g x r b d (w.heap.size + 1) s h N a6 n6 l6 L3 y9 := HI8.out.set (t9.mono (by simp)) (HI8.out.D.turn t9 (by simpa using Blk.ne_ HI8.out.D.blk HI8.out.G (by decide)) (by simpa using Blk.ne_ HI8.out.D.row HI8.out.G (by decide))) g9 ok9
              have HI9 := Lib.hid I9
              have HN9 := Lib.hid (And.intro hno (And.intro run9 (And.intro ok9 yb9)))
              clear I9 hno run9 ok9 yb9 g9 t9 HI8 HI6
              go_wp2_with (go_at_call 43; refine (srcFault_spent 3 HI9.out.S HI9.out.G HN9.out.1).mono ?_; rintro e wf ⟨rfl, bf⟩; have If := HI9.out.below bf; obtain ⟨f0, f1, f2, z0, z1, z2, fl⟩ := FB.all If.F)
              have F10 : FB (st3 wf (w.heap.size + 1) (.int .i64 4) (.int .i64 3) (.int .i64 (a6 : Int))) (w.heap.size + 1) 4 3 (a6 : Int) := FB.st3 If.F
              obtain ⟨k0, k1, k2, _⟩ := FB.all F10
              have fin := If.fin (u := .int .i64 4) (v := .int .i64 3) (e := .int .i64 (a6 : Int)) hqw (by omega)
              change bodyPost _ _ _ _ _ (st3 wf (w.heap.size + 1) (.int .i64 4) (.int .i64 3) (.int .i64 (a6 : Int)))
              exact bodyPost_ret (v := .agg #[.int .i64 4, .int .i64 3, .int .i64 (a6 : Int)]) (by simp [results, Tryz.results62, go_sem, k0, k1, k2]) rfl ⟨y9, pixL L3 (4 * N), fin.1, HN9.out.2.2.1, HN9.out.2.2.2.trans HR.out.2.2.2.2, fin.2.1, fin.2.2.1, fin.2.2.2, by rw [pixL_len (by have := pos_lt HZ.out.1 HYY.out.2 HXX.out.2 HH.out.2.2.1; omega), HH.out.2.2.1], .inl ⟨4, a6, by decide, rfl, fun z => by rw [HZ.out.2.2.2.2.2.2.2, show N - L3.length = N - L3.length - 1 + 1 by have := pos_lt HZ.out.1 HYY.out.2 HXX.out.2 HH.out.2.2.1; omega, if_neg (by have := HXX.out.2; omega)]; exact (HR.out.1 z _).trans (HN9.out.2.1 z a6 _)⟩⟩
            · have I9 := HI8.out.set t9 (HOV.out ▸ D9) g9 ok9
              have HI9 := Lib.hid I9
              have HN9 := Lib.hid (And.intro run9 (And.intro yr9 yb9))
              clear I9 run9 ok9 yb9 g9 t9 D9 yr9 HI8 HI6
              go_roundg (h.W - (X + 1))
              case measure => have := HXX.out; omega
              case rel =>
                have hlen := pos_lt HZ.out.1 HYY.out.2 HXX.out.2 HH.out.2.2.1
                refine ⟨X + 1, a6, n6, l6, y9, L3 ++ [grayQ c], by have := HXX.out; omega, by go_num, Lib.hid ⟨by rw [List.length_append, List.length_singleton, HZ.out.1]; omega, HI9.out, HR.out.2.1, HN9.out.2.1, HN9.out.2.2.trans HR.out.2.2.2.2, HR.out.2.2.1, fun _ => by have := HR.out.2.2.2.1; omega, fun z => ?_⟩⟩
                rw [HZ.out.2.2.2.2.2.2.2, show N - L3.length = N - L3.length - 1 + 1 by have := pos_lt HZ.out.1 HYY.out.2 HXX.out.2 HH.out.2.2.1; omega, if_neg (by have := HXX.out.2; omega), show N - (L3 ++ [grayQ c]).length = N - L3.length - 1 by rw [List.length_append, List.length_singleton]; omega]
                exact (HR.out.1 z _).trans (HN9.out.1 z a6 _)
        · have hXI : ¬ (X : Int) < (h.W : Int) := by omega
          have hXe : X = h.W := by omega
          have HXE := Lib.hid hXe
          clear hX hXe
          go_wp2_with (go_at_call 88; refine (bitsAlignC HZ.out.2.1.X).mono ?_; rintro e w7 ⟨rfl, x7, t7⟩; have HI7 := Lib.hid (HZ.out.2.1.only t7 x7); clear x7 t7)
          go_roundg (h.H - (Y + 1))
          case measure => have := HYY.out; omega
          case rel => exact ⟨Y + 1, a3, n3, y3, L3, by have := HYY.out; omega, by go_num, Lib.hid ⟨by rw [HZ.out.1, HXE.out, Nat.add_mul, Nat.one_mul], HI7.out, HZ.out.2.2.1, HZ.out.2.2.2.1, HZ.out.2.2.2.2.1, HZ.out.2.2.2.2.2.1, fun z => by rw [HZ.out.2.2.2.2.2.2.2, if_pos HXE.out]⟩⟩
    · have hYI : ¬ (Y : Int) < (h.H : Int) := by omega
      have hLN : L.length = N := by rw [HX.out.1, show Y = h.H by omega, Nat.mul_comm]; exact HH.out.2.2.1
      have HLN := Lib.hid hLN
      have I9 := HX.out.2.1
      obtain ⟨f0, f1, f2, z0, z1, z2, fl⟩ := FB.all I9.F
      clear hY hLN
      go_wp2_with fail
      have F10 : FB (st3 wr (w.heap.size + 1) (.int .i64 0) (.int .i64 0) (.int .i64 0)) (w.heap.size + 1) 0 0 0 := FB.st3 I9.F
      obtain ⟨k0, k1, k2, _⟩ := FB.all F10
      have fin := I9.fin (u := .int .i64 0) (v := .int .i64 0) (e := .int .i64 0) hqw (by omega)
      change bodyPost _ _ _ _ _ (st3 wr (w.heap.size + 1) (.int .i64 0) (.int .i64 0) (.int .i64 0))
      exact bodyPost_ret (v := .agg #[.int .i64 0, .int .i64 0, .int .i64 0]) (by simp [results, Tryz.results62, go_sem, k0, k1, k2]) rfl ⟨y2, pixL L (4 * N), fin.1, I9.ok, HX.out.2.2.2.2.1, fin.2.1, fin.2.2.1, fin.2.2.2, by rw [pixL_len (by rw [HLN.out]; omega), HH.out.2.2.1], .inr ⟨rfl, HX.out.2.2.2.1, L, by rw [HLN.out, HH.out.2.2.1], pixL_all (by rw [HLN.out]), fun z => by rw [HX.out.2.2.2.2.2.2, HLN.out, Nat.sub_self]; rfl⟩⟩
end Go.Proofs.YthljhebbblhakaaGreatDoor
