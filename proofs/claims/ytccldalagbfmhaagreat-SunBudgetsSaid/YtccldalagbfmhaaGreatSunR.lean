/- sun: a row of pixels, three bytes or four each. sun: a row of pixels, a byte each. sun: a row of pixels, a bit each. -/
import Derived.Test.YtccldalagbfmhaaGreatSunF
namespace Go.Proofs.YtccldalagbfmhaaGreat
open Go.RowKit
set_option linter.unusedVariables false
set_option linter.unusedSimpArgs false

set_option maxRecDepth 100000 in
set_option maxHeartbeats 4000000 in
theorem sunRow_many {w : World} {p g x r b d z Y fn : Nat} {pk : Bool} {s : ByteArray} {h : SunHd} {lv : Value} {t : SunSt} {L : List Qc} {y : Led} (N : IsNext s h lv fn pk z) (hh : h.Ok) (hsm : s.size ≤ 1099511627776) (hbits : h.bits = 24 ∨ h.bits = 32) (S0 : SrcAt w p g s 0 s.size t.a) (L0 : LedAt w g y) (X0 : SunX w p x h lv fn t) (R0 : RasAt w r g b (h.W : Int) (h.H : Int) true) (B0 : BufAt w b g d (pixL L (4 * (h.W * h.H)))) (M0 : MapAt w g s h lv (b, d)) (tok : t.Ok s) (ok : y.Ok) (hr : y.reason = 0) (hL : L.length = Y * h.W) (hY : Y < h.H) :
    Calls Tryz.prog 141 #[.pointer (some ⟨x, 0, none⟩), .pointer (some ⟨r, 0, none⟩), .int .i64 (Y : Int)] w fun e w' => RowPost w w' p g x r b d s h lv fn pk z t L y e := by
  have HNN := Lib.hid N
  obtain ⟨HE, HN'⟩ := N
  have HN := Lib.hid HN'
  clear HN'
  have I0 : RowI w (w.alloc (.cells #[.int .i64 0, .int .i64 0, .int .i64 0] 31)) p g x r b d w.heap.size s h lv fn t L y y :=
    ⟨Blk.alloc S0 _, Blk.alloc L0 _, Blk.alloc X0 _, Blk.alloc R0 _, ⟨Blk.alloc B0.blk _, Blk.alloc B0.row _⟩, M0.turn ((Turn.refl [] w).alloc _) (fun _ _ _ _ _ => ⟨by simp, by simp, by simp⟩), FB.new w, (Turn.refl _ _).alloc _, Nat.le_refl _, tok, ok, hr, rfl⟩
  have HH := Lib.hid hh
  have HLL := Lib.hid hL
  have HYY := Lib.hid hY
  have HW2 := hh.w2
  have HWI : (h.W : Int) ≤ 16384 := by omega
  have HWB := Lib.hid HW2
  clear HW2
  generalize hws : w.alloc (.cells #[.int .i64 0, .int .i64 0, .int .i64 0] 31) = ws at I0
  have HWS := Lib.hid hws
  have HI := Lib.hid I0
  clear S0 L0 X0 R0 B0 M0 tok ok hr I0 hws hh hL hY
  go_enter Tryz.func141, Tryz.ntmps141
  go_upto_region 1 with fail
  rw [HWS.out]
  obtain ⟨x0, x1, x3, x4, x6, x7, x8, x9, x10, xl⟩ := SunX.all HI.out.X
  go_wp2_with fail
  go_loopg [7, 8, 17] h.W (fun gh v7 v8 v17 wr => ∃ (i gk v q : Nat) (t' : SunSt) (y' : Led) (Q : List Qc), gk = gh ∧ i + gk = h.W ∧ v7 = .int .i64 (v : Int) ∧ v8 = .int .i64 (q : Int) ∧ v17 = .int .i64 (i : Int) ∧ Hid (RowI w wr p g x r b d w.heap.size s h lv fn t' Q y y' ∧ v < 256 ∧ q ≤ s.size ∧ Q.length = L.length + i ∧ ∀ k, (sunRow s pk z h (sunFills h) h.W 0 0 0 t L k).run y = (sunRow s pk z h (sunFills h) gk i v q t' Q k).run y'))
  case atStart => exact ⟨0, h.W, 0, 0, t, y, L, rfl, by omega, rfl, rfl, rfl, Lib.hid ⟨HI.out, by decide, Nat.zero_le _, rfl, fun k => rfl⟩⟩
  case round =>
    obtain ⟨i, gk, v, q, t', y', Q, rfl, hi, rfl, rfl, rfl, hP⟩ := hrel
    obtain ⟨I, hv, hq, hQ, hrun⟩ := hP.out
    clear HI hP x0 x1 x3 x4 x6 x7 x8 x9 x10 xl HWS
    have HQ := Lib.hid hQ
    have HRUN := Lib.hid hrun
    have HV := Lib.hid hv
    have HQQ := Lib.hid hq
    have hvI : (v : Int) < 256 := by omega
    have hqI : (q : Int) ≤ 1099511627776 := by omega
    obtain ⟨x0, x1, x3, x4, x6, x7, x8, x9, x10, xl⟩ := SunX.all I.X
    have HI := Lib.hid I
    clear I hrun hv hq hQ
    by_cases hi4 : i < h.W
    · have hiI : (i : Int) < (h.W : Int) := by omega
      obtain ⟨gm, rfl⟩ : ∃ gm, gk = gm + 1 := ⟨gk - 1, by omega⟩
      have HIG := Lib.hid hi
      go_upto_region 7 with fail
      have I1 : RowI w ((wr.alloc (.cells #[.int .u8 0, .int .u8 0, .int .u8 0, .int .u8 0] 131)).alloc (.cells #[.int .i64 0, .int .i64 0, .int .i64 0] 31)) p g x r b d w.heap.size s h lv fn t' Q y y' := (HI.out.alloc _).alloc _
      have C1 : CB0 ((wr.alloc (.cells #[.int .u8 0, .int .u8 0, .int .u8 0, .int .u8 0] 131)).alloc (.cells #[.int .i64 0, .int .i64 0, .int .i64 0] 31)) wr.heap.size := Blk.alloc (Blk.new _ _ _) _
      have F1 : FB ((wr.alloc (.cells #[.int .u8 0, .int .u8 0, .int .u8 0, .int .u8 0] 131)).alloc (.cells #[.int .i64 0, .int .i64 0, .int .i64 0] 31)) (wr.heap.size + 1) 0 0 0 := Blk.new_at _ _ _ (sz1 _ _).symm
      have hwr : w.heap.size < wr.heap.size := Blk.lt HI.out.F
      generalize (wr.alloc (.cells #[.int .u8 0, .int .u8 0, .int .u8 0, .int .u8 0] 131)).alloc (.cells #[.int .i64 0, .int .i64 0, .int .i64 0] 31) = w1 at I1 C1 F1 ⊢
      generalize hqf : wr.heap.size + 1 = qf at F1 ⊢
      generalize hqc : wr.heap.size = qc at C1 hqf hwr ⊢
      have hnc : w.heap.size ≤ qc := by omega
      have hnf : w.heap.size ≤ qf := by omega
      have k1 : qc ≠ qf := by omega
      have k2 := k1.symm
      have k3 : w.heap.size ≠ qc := by omega
      have k4 := k3.symm
      have k5 : w.heap.size ≠ qf := by omega
      have k6 := k5.symm
      clear hqf hqc hwr x0 x1 x3 x4 x6 x7 x8 x9 x10 xl HI
      have HI1 := Lib.hid I1
      have HC1 := Lib.hid C1
      have HF1 := Lib.hid F1
      obtain ⟨x0, x1, x3, x4, x6, x7, x8, x9, x10, xl⟩ := SunX.all I1.X
      obtain ⟨f0, f1, f2', z0, z1, z2, fl⟩ := FB.all I1.F
      obtain ⟨d0, d1, d2, d3, y0', y1, y2', y3, dl⟩ := CB0.all C1
      obtain ⟨g0, g1, g2, o0, o1, o2, gl⟩ := FB.all F1
      clear I1 C1 F1
      obtain ⟨pr, hpr⟩ : ∃ pr, Y * h.W = pr := ⟨_, rfl⟩
      have hN1 : Y * h.W + h.W ≤ h.W * h.H := by rw [← Nat.succ_mul, Nat.mul_comm h.W h.H]; exact Nat.mul_le_mul_right _ HYY.out
      have hN2 : h.W * h.H ≤ 16384 * 16384 := Nat.mul_le_mul HH.out.w2 HH.out.h2
      have HPR := Lib.hid hpr
      have HI4 : Hid (4 * (pr + i) = 4 * Q.length) := Lib.hid (by rw [HQ.out, HLL.out, ← hpr])
      have HPB : Hid (pr ≤ 1073741824) := Lib.hid (by omega)
      have HQB : Hid (4 * (Q.length + 1) ≤ 4 * (h.W * h.H)) := Lib.hid (by rw [HQ.out, HLL.out]; omega)
      have HN2 := Lib.hid hN2
      have HIW := Lib.hid hi4
      clear hpr hN1 hN2 hi hi4
      have hb8 : (8 : Int) < (h.bits : Int) := by omega
      have hb1 : ¬ (h.bits : Int) = 1 := by omega
      have hb9 : 8 < h.bits := by omega
      go_upto_region 13 with (go_at_call 192; refine (sunColorC HNN.out hbits HI1.out.S HI1.out.L HI1.out.X HI1.out.ok HI1.out.yok HI1.out.yr).mono ?_; rintro e w2 ⟨y2, l2, ok2, b2, tn, hor⟩; have F2 := FB.turn HI1.out.F tn (by simp only [List.mem_cons, List.not_mem_nil, or_false, not_or]; exact ⟨Blk.ne_ HI1.out.F HI1.out.S (by decide), Blk.ne_ HI1.out.F HI1.out.L (by decide), Blk.ne_ HI1.out.F HI1.out.X (by decide)⟩); have C2 : CB0 w2 qc := Blk.turn HC1.out tn (by simp only [List.mem_cons, List.not_mem_nil, or_false, not_or]; exact ⟨Blk.ne_ HC1.out HI1.out.S (by decide), Blk.ne_ HC1.out HI1.out.L (by decide), Blk.ne_ HC1.out HI1.out.X (by decide)⟩); have G2 := FB.turn HF1.out tn (by simp only [List.mem_cons, List.not_mem_nil, or_false, not_or]; exact ⟨Blk.ne_ HF1.out HI1.out.S (by decide), Blk.ne_ HF1.out HI1.out.L (by decide), Blk.ne_ HF1.out HI1.out.X (by decide)⟩); have B2 := HI1.out.B.turn tn (by simp only [List.mem_cons, List.not_mem_nil, or_false, not_or]; exact ⟨Blk.ne_ HI1.out.B.blk HI1.out.S (by decide), Blk.ne_ HI1.out.B.blk HI1.out.L (by decide), Blk.ne_ HI1.out.B.blk HI1.out.X (by decide)⟩) (by simp only [List.mem_cons, List.not_mem_nil, or_false, not_or]; exact ⟨Blk.ne_ HI1.out.B.row HI1.out.S (by decide), Blk.ne_ HI1.out.B.row HI1.out.L (by decide), Blk.ne_ HI1.out.B.row HI1.out.X (by decide)⟩); have T2 := HI1.out.T.trans (tn.mono (S' := [p, g, x, d]) (by simp)); clear x0 x1 x3 x4 x6 x7 x8 x9 x10 xl f0 f1 f2' z0 z1 z2 fl d0 d1 d2 d3 y0' y1 y2' y3 dl g0 g1 g2 o0 o1 o2 gl; obtain ⟨f0, f1, f2', z0, z1, z2, fl⟩ := FB.all F2; obtain ⟨d0, d1, d2, d3, y0', y1, y2', y3, dl⟩ := CB0.all C2; obtain ⟨g0, g1, g2, o0, o1, o2, gl⟩ := FB.all G2; simp only [fltV, flt0, Qc.v, colV0] at hor; rcases hor with ⟨kk, aa, t2, hk, rfl, X2, hno⟩ | ⟨c, t2, rfl, t2ok, yr2, s2, X2, hyes⟩; all_goals (obtain ⟨x0, x1, x3, x4, x6, x7, x8, x9, x10, xl⟩ := SunX.all X2))
      · generalize hw9 : (((((((w2.setCell ⟨qc, 0, none⟩ (.int .u8 0)).setCell ⟨qc, 1, none⟩ (.int .u8 0)).setCell ⟨qc, 2, none⟩ (.int .u8 0)).setCell ⟨qc, 3, none⟩ (.int .u8 0)).setCell ⟨qf, 0, none⟩ (.int .i64 (kk : Int))).setCell ⟨qf, 1, none⟩ (.int .i64 8)).setCell ⟨qf, 2, none⟩ (.int .i64 (aa : Int))) = w9
        have X9 : SunX w9 p x h lv fn t2 := by rw [← hw9]; exact Blk.st3 (Blk.sv4 X2 (Blk.ne_ X2 C2 (by decide))) (Blk.ne_ X2 G2 (by decide))
        have F9 : FB w9 w.heap.size 0 0 0 := by rw [← hw9]; exact Blk.st3 (Blk.sv4 F2 (Blk.ne_ F2 C2 (by decide))) k5
        have G9 : FB w9 qf (kk : Int) 8 (aa : Int) := by rw [← hw9]; exact FB.st3 (Blk.sv4 G2 k2)
        have L9 : LedAt w9 g y2 := by rw [← hw9]; exact Blk.st3 (Blk.sv4 l2 (Blk.ne_ l2 C2 (by decide))) (Blk.ne_ l2 G2 (by decide))
        have B9 : BufAt w9 b g d (pixL Q (4 * (h.W * h.H))) := by rw [← hw9]; exact ⟨Blk.st3 (Blk.sv4 B2.blk (Blk.ne_ B2.blk C2 (by decide))) (Blk.ne_ B2.blk G2 (by decide)), Blk.st3 (Blk.sv4 B2.row (Blk.ne_ B2.row C2 (by decide))) (Blk.ne_ B2.row G2 (by decide))⟩
        have T9 : Turn [p, g, x, d] w w9 := by rw [← hw9]; exact Turn.st3 (Turn.sv4 T2 (.inr hnc)) (.inr hnf)
        have HD := Lib.hid (And.intro L9 (And.intro B9 T9))
        clear x0 x1 x3 x4 x6 x7 x8 x9 x10 xl f0 f1 f2' z0 z1 z2 fl d0 d1 d2 d3 y0' y1 y2' y3 dl g0 g1 g2 o0 o1 o2 gl C2 F2 G2 X2 B2 T2 l2 tn hw9
        obtain ⟨x0, x1, x3, x4, x6, x7, x8, x9, x10, xl⟩ := SunX.all X9
        obtain ⟨f0, f1, f2', z0, z1, z2, fl⟩ := FB.all F9
        obtain ⟨g0, g1, g2, o0, o1, o2, gl⟩ := FB.all G9
        have lf := Blk.ne_ HD.out.1 F9 (by decide)
        have bf := Blk.ne_ HD.out.2.1.blk F9 (by decide)
        have df := Blk.ne_ HD.out.2.1.row F9 (by decide)
        clear X9 F9 G9 L9 B9 T9
        have hkI : ¬ (kk : Int) = 0 := by omega
        go_wp2_with fail
        exact bodyPost_ret (v := fltV kk aa) (by simp [results, Tryz.results141, go_sem, f0, f1, f2', fltV]) rfl ⟨y2, Q, Blk.st3 HD.out.1 lf, ok2, b2.trans HI1.out.yb, Turn.st3 HD.out.2.2 (.inr (Nat.le_refl _)), ⟨Blk.st3 HD.out.2.1.blk bf, Blk.st3 HD.out.2.1.row df⟩, by have := HQB.out; omega, .inl ⟨kk, aa, hk, rfl, fun k => by rw [HRUN.out k, sunRow_succ, sunPixel_many hb9]; exact hno _⟩⟩
      · have I2 := HI1.out.rd tn s2 l2 X2 t2ok ok2 yr2 b2
        generalize hw9 : (((((((w2.setCell ⟨qc, 0, none⟩ (.int .u8 (c.r.toNat : Int))).setCell ⟨qc, 1, none⟩ (.int .u8 (c.g.toNat : Int))).setCell ⟨qc, 2, none⟩ (.int .u8 (c.b.toNat : Int))).setCell ⟨qc, 3, none⟩ (.int .u8 (c.a.toNat : Int))).setCell ⟨qf, 0, none⟩ (.int .i64 0)).setCell ⟨qf, 1, none⟩ (.int .i64 0)).setCell ⟨qf, 2, none⟩ (.int .i64 0)) = w9
        have I3 : RowI w w9 p g x r b d w.heap.size s h lv fn t2 Q y y2 := by rw [← hw9]; exact (I2.sv4 C2 hnc).st3 (Blk.sv4 G2 k2) k6 hnf
        have C9 : Blk w9 qc 131 #[.int .u8 (c.r.toNat : Int), .int .u8 (c.g.toNat : Int), .int .u8 (c.b.toNat : Int), .int .u8 (c.a.toNat : Int)] := by rw [← hw9]; exact Blk.st3 ((Blk.set_ (Blk.set_ (Blk.set_ (Blk.set_ C2 0 _) 1 _) 2 _) 3 _).eq_ rfl) k1
        have G9 : FB w9 qf 0 0 0 := by rw [← hw9]; exact FB.st3 (Blk.sv4 G2 k2)
        have HI3 := Lib.hid I3
        clear x0 x1 x3 x4 x6 x7 x8 x9 x10 xl f0 f1 f2' z0 z1 z2 fl d0 d1 d2 d3 y0' y1 y2' y3 dl g0 g1 g2 o0 o1 o2 gl I2 C2 F2 G2 X2 B2 T2 tn hw9
        obtain ⟨x0, x1, x3, x4, x6, x7, x8, x9, x10, xl⟩ := SunX.all I3.X
        obtain ⟨f0, f1, f2', z0, z1, z2, fl⟩ := FB.all I3.F
        obtain ⟨g0, g1, g2, o0, o1, o2, gl⟩ := FB.all G9
        have d0 := Blk.cell C9 0
        have d1 := Blk.cell C9 1
        have d2 := Blk.cell C9 2
        have d3 := Blk.cell C9 3
        have dl := Blk.lt C9
        clear I3 C9 G9
        go_wp2_with (first
          | (go_at_call 61; refine (srcFault_is 8 s5 l5 (.inl ⟨yr5, rfl, rfl⟩)).mono ?_; rintro e w6 ⟨rfl, b6⟩; have l6 := Blk.below l5 b6 (Blk.lt l5); have FF6 := FB.below FF5 b6; have BB6 : BufAt w6 b g d (pixL Q (4 * (h.W * h.H))) := ⟨Blk.below BB5.blk b6 (Blk.lt BB5.blk), Blk.below BB5.row b6 (Blk.lt BB5.row)⟩; have T6 := T5.trans (Turn.of_below (S := [p, g, x, d]) b6); clear x0 x1 x3 x4 x6 x7 x8 x9 x10 xl f0 f1 f2' z0 z1 z2 fl d0 d1 d2 d3 dl g0 g1 g2 o0 o1 o2 gl; obtain ⟨f0, f1, f2', z0, z1, z2, fl⟩ := FB.all FF6)
          | (go_at_call 159; refine (rasSet_ways (c0 := c.r) (c1 := c.g) (c2 := c.b) (c3 := c.a) HI3.out.R HI3.out.B HI3.out.L HI3.out.yok HI3.out.yr HIW.out HYY.out HPR.out HI4.out HPB.out HH.out.w2 HH.out.h2 (by rw [pixL_len (by have := HQB.out; omega)]; exact HQB.out) (by rw [pixL_len (by have := HQB.out; omega)]; have := HN2.out; omega)).mono ?_; rintro e w5 ⟨y5, l5, ok5, b5, hor5⟩; rcases hor5 with ⟨rfl, t5, yr5, hno5⟩ | ⟨rfl, t5, B5, yr5, hyes5⟩; all_goals (try (have s5 : SrcAt w5 p g s 0 s.size t2.a := HI3.out.S.turn t5 (by simpa using Blk.ne_ HI3.out.S HI3.out.L (by decide)); have FF5 : FB w5 w.heap.size 0 0 0 := FB.turn HI3.out.F t5 (by simpa using Blk.ne_ HI3.out.F HI3.out.L (by decide)); have BB5 := HI3.out.B.turn t5 (by simpa using Blk.ne_ HI3.out.B.blk HI3.out.L (by decide)) (by simpa using Blk.ne_ HI3.out.B.row HI3.out.L (by decide)); have T5 := HI3.out.T.trans (t5.mono (S' := [p, g, x, d]) (by simp)); have XX5 : SunX w5 p x h lv fn t2 := Blk.turn HI3.out.X t5 (by simpa using Blk.ne_ HI3.out.X HI3.out.L (by decide)); clear x0 x1 x3 x4 x6 x7 x8 x9 x10 xl f0 f1 f2' z0 z1 z2 fl; obtain ⟨x0, x1, x3, x4, x6, x7, x8, x9, x10, xl⟩ := SunX.all XX5; obtain ⟨f0, f1, f2', z0, z1, z2, fl⟩ := FB.all FF5))))
        · exact bodyPost_ret (v := fltV 4 t2.a) (by simp [results, Tryz.results141, go_sem, f0, f1, f2', fltV]) rfl ⟨y5, Q, Blk.st3 l6 (Blk.ne_ l6 FF6 (by decide)), ok5, b5.trans HI3.out.yb, Turn.st3 T6 (.inr (Nat.le_refl _)), ⟨Blk.st3 BB6.blk (Blk.ne_ BB6.blk FF6 (by decide)), Blk.st3 BB6.row (Blk.ne_ BB6.row FF6 (by decide))⟩, by have := HQB.out; omega, .inl ⟨4, t2.a, by decide, rfl, fun k => by rw [HRUN.out k, sunRow_succ, sunPixel_many hb9, hyes]; exact hno5 _ _ _⟩⟩
        · have B5' : BufAt w5 b g d (pixL (Q ++ [c]) (4 * (h.W * h.H))) := by rw [← pixL_next c HQB.out]; exact B5
          have HI5 := Lib.hid (HI3.out.set t5 B5' l5 ok5 yr5 b5)
          clear x0 x1 x3 x4 x6 x7 x8 x9 x10 xl f0 f1 f2' z0 z1 z2 fl d0 d1 d2 d3 dl g0 g1 g2 o0 o1 o2 gl B5 B5'
          go_roundg gm
          case measure => omega
          case rel => exact ⟨i + 1, gm, v, q, t2, y5, Q ++ [c], rfl, by have := HIG.out; omega, rfl, rfl, by go_num, Lib.hid ⟨HI5.out, HV.out, HQQ.out, by rw [List.length_append, HQ.out]; rfl, fun k => by rw [HRUN.out k, sunRow_succ, sunPixel_many hb9, hyes]; exact hyes5 _ _ _⟩⟩
    · have hiw : i = h.W := by omega
      have hg0 : gk = 0 := by omega
      have hiI : ¬ (i : Int) < (h.W : Int) := by omega
      subst hg0
      obtain ⟨f0, f1, f2', z0, z1, z2, fl⟩ := FB.all HI.out.F
      have HL' : Hid (Q.length = L.length + h.W) := Lib.hid (by rw [HQ.out, hiw])
      clear hi hi4 hiw
      go_wp2_with (go_at_call 194; refine (sunFillC HNN.out HH.out HI.out.S HI.out.L HI.out.X HI.out.ok HI.out.yok HI.out.yr).mono ?_; rintro e w2 ⟨y2, l2, ok2, b2, tn, hor⟩; have F2 : FB w2 w.heap.size 0 0 0 := FB.turn HI.out.F tn (by simp only [List.mem_cons, List.not_mem_nil, or_false, not_or]; exact ⟨Blk.ne_ HI.out.F HI.out.S (by decide), Blk.ne_ HI.out.F HI.out.L (by decide), Blk.ne_ HI.out.F HI.out.X (by decide)⟩); have B2 := HI.out.B.turn tn (by simp only [List.mem_cons, List.not_mem_nil, or_false, not_or]; exact ⟨Blk.ne_ HI.out.B.blk HI.out.S (by decide), Blk.ne_ HI.out.B.blk HI.out.L (by decide), Blk.ne_ HI.out.B.blk HI.out.X (by decide)⟩) (by simp only [List.mem_cons, List.not_mem_nil, or_false, not_or]; exact ⟨Blk.ne_ HI.out.B.row HI.out.S (by decide), Blk.ne_ HI.out.B.row HI.out.L (by decide), Blk.ne_ HI.out.B.row HI.out.X (by decide)⟩); have T2 := HI.out.T.trans (tn.mono (S' := [p, g, x, d]) (by simp)); clear f0 f1 f2' z0 z1 z2 fl x0 x1 x3 x4 x6 x7 x8 x9 x10 xl; obtain ⟨f0, f1, f2', z0, z1, z2, fl⟩ := FB.all F2; simp only [fltV, flt0] at hor; rcases hor with ⟨kk, aa, hk, rfl, hno⟩ | ⟨t2, rfl, t2ok, yr2, s2, X2, hyes⟩)
      · exact bodyPost_ret (v := fltV kk aa) (by simp [results, Tryz.results141, go_sem, f0, f1, f2', fltV]) rfl ⟨y2, Q, Blk.st3 l2 (Blk.ne_ l2 F2 (by decide)), ok2, b2.trans HI.out.yb, Turn.st3 T2 (.inr (Nat.le_refl _)), ⟨Blk.st3 B2.blk (Blk.ne_ B2.blk F2 (by decide)), Blk.st3 B2.row (Blk.ne_ B2.row F2 (by decide))⟩, sunRow_len HYY.out HL'.out HLL.out, .inl ⟨kk, aa, hk, rfl, fun k => by rw [HRUN.out k]; exact hno _⟩⟩
      · exact bodyPost_ret (v := flt0) (by simp [results, Tryz.results141, go_sem, f0, f1, f2', flt0]) rfl ⟨y2, Q, Blk.st3 l2 (Blk.ne_ l2 F2 (by decide)), ok2, b2.trans HI.out.yb, Turn.st3 T2 (.inr (Nat.le_refl _)), ⟨Blk.st3 B2.blk (Blk.ne_ B2.blk F2 (by decide)), Blk.st3 B2.row (Blk.ne_ B2.row F2 (by decide))⟩, sunRow_len HYY.out HL'.out HLL.out, .inr ⟨t2, rfl, t2ok, yr2, Blk.st3 s2 (Blk.ne_ s2 F2 (by decide)), Blk.st3 X2 (Blk.ne_ X2 F2 (by decide)), HL'.out, fun k => by rw [HRUN.out k]; exact hyes _⟩⟩
end Go.Proofs.YtccldalagbfmhaaGreat
namespace Go.Proofs.YtccldalagbfmhaaGreat
open Go.RowKit
set_option linter.unusedVariables false
set_option linter.unusedSimpArgs false

set_option maxRecDepth 100000 in
set_option maxHeartbeats 4000000 in
theorem sunRow_byte {w : World} {p g x r b d z Y fn : Nat} {pk : Bool} {s : ByteArray} {h : SunHd} {lv : Value} {t : SunSt} {L : List Qc} {y : Led} (N : IsNext s h lv fn pk z) (hh : h.Ok) (hsm : s.size ≤ 1099511627776) (hbits : h.bits = 8) (S0 : SrcAt w p g s 0 s.size t.a) (L0 : LedAt w g y) (X0 : SunX w p x h lv fn t) (R0 : RasAt w r g b (h.W : Int) (h.H : Int) true) (B0 : BufAt w b g d (pixL L (4 * (h.W * h.H)))) (M0 : MapAt w g s h lv (b, d)) (tok : t.Ok s) (ok : y.Ok) (hr : y.reason = 0) (hL : L.length = Y * h.W) (hY : Y < h.H) :
    Calls Tryz.prog 141 #[.pointer (some ⟨x, 0, none⟩), .pointer (some ⟨r, 0, none⟩), .int .i64 (Y : Int)] w fun e w' => RowPost w w' p g x r b d s h lv fn pk z t L y e := by
  have HNN := Lib.hid N
  obtain ⟨HE, HN'⟩ := N
  have HN := Lib.hid HN'
  clear HN'
  have I0 : RowI w (w.alloc (.cells #[.int .i64 0, .int .i64 0, .int .i64 0] 31)) p g x r b d w.heap.size s h lv fn t L y y :=
    ⟨Blk.alloc S0 _, Blk.alloc L0 _, Blk.alloc X0 _, Blk.alloc R0 _, ⟨Blk.alloc B0.blk _, Blk.alloc B0.row _⟩, M0.turn ((Turn.refl [] w).alloc _) (fun _ _ _ _ _ => ⟨by simp, by simp, by simp⟩), FB.new w, (Turn.refl _ _).alloc _, Nat.le_refl _, tok, ok, hr, rfl⟩
  have HH := Lib.hid hh
  have HLL := Lib.hid hL
  have HYY := Lib.hid hY
  have HW2 := hh.w2
  have HWI : (h.W : Int) ≤ 16384 := by omega
  have HWB := Lib.hid HW2
  clear HW2
  generalize hws : w.alloc (.cells #[.int .i64 0, .int .i64 0, .int .i64 0] 31) = ws at I0
  have HWS := Lib.hid hws
  have HI := Lib.hid I0
  clear S0 L0 X0 R0 B0 M0 tok ok hr I0 hws hh hL hY
  go_enter Tryz.func141, Tryz.ntmps141
  go_upto_region 1 with fail
  rw [HWS.out]
  obtain ⟨x0, x1, x3, x4, x6, x7, x8, x9, x10, xl⟩ := SunX.all HI.out.X
  go_wp2_with fail
  go_loopg [7, 8, 17] h.W (fun gh v7 v8 v17 wr => ∃ (i gk v q : Nat) (t' : SunSt) (y' : Led) (Q : List Qc), gk = gh ∧ i + gk = h.W ∧ v7 = .int .i64 (v : Int) ∧ v8 = .int .i64 (q : Int) ∧ v17 = .int .i64 (i : Int) ∧ Hid (RowI w wr p g x r b d w.heap.size s h lv fn t' Q y y' ∧ v < 256 ∧ q ≤ s.size ∧ Q.length = L.length + i ∧ ∀ k, (sunRow s pk z h (sunFills h) h.W 0 0 0 t L k).run y = (sunRow s pk z h (sunFills h) gk i v q t' Q k).run y'))
  case atStart => exact ⟨0, h.W, 0, 0, t, y, L, rfl, by omega, rfl, rfl, rfl, Lib.hid ⟨HI.out, by decide, Nat.zero_le _, rfl, fun k => rfl⟩⟩
  case round =>
    obtain ⟨i, gk, v, q, t', y', Q, rfl, hi, rfl, rfl, rfl, hP⟩ := hrel
    obtain ⟨I, hv, hq, hQ, hrun⟩ := hP.out
    clear HI hP x0 x1 x3 x4 x6 x7 x8 x9 x10 xl HWS
    have HQ := Lib.hid hQ
    have HRUN := Lib.hid hrun
    have HV := Lib.hid hv
    have HQQ := Lib.hid hq
    have hvI : (v : Int) < 256 := by omega
    have hqI : (q : Int) ≤ 1099511627776 := by omega
    obtain ⟨x0, x1, x3, x4, x6, x7, x8, x9, x10, xl⟩ := SunX.all I.X
    have HI := Lib.hid I
    clear I hrun hv hq hQ
    by_cases hi4 : i < h.W
    · have hiI : (i : Int) < (h.W : Int) := by omega
      obtain ⟨gm, rfl⟩ : ∃ gm, gk = gm + 1 := ⟨gk - 1, by omega⟩
      have HIG := Lib.hid hi
      go_upto_region 7 with fail
      have I1 : RowI w ((wr.alloc (.cells #[.int .u8 0, .int .u8 0, .int .u8 0, .int .u8 0] 131)).alloc (.cells #[.int .i64 0, .int .i64 0, .int .i64 0] 31)) p g x r b d w.heap.size s h lv fn t' Q y y' := (HI.out.alloc _).alloc _
      have C1 : CB0 ((wr.alloc (.cells #[.int .u8 0, .int .u8 0, .int .u8 0, .int .u8 0] 131)).alloc (.cells #[.int .i64 0, .int .i64 0, .int .i64 0] 31)) wr.heap.size := Blk.alloc (Blk.new _ _ _) _
      have F1 : FB ((wr.alloc (.cells #[.int .u8 0, .int .u8 0, .int .u8 0, .int .u8 0] 131)).alloc (.cells #[.int .i64 0, .int .i64 0, .int .i64 0] 31)) (wr.heap.size + 1) 0 0 0 := Blk.new_at _ _ _ (sz1 _ _).symm
      have hwr : w.heap.size < wr.heap.size := Blk.lt HI.out.F
      generalize (wr.alloc (.cells #[.int .u8 0, .int .u8 0, .int .u8 0, .int .u8 0] 131)).alloc (.cells #[.int .i64 0, .int .i64 0, .int .i64 0] 31) = w1 at I1 C1 F1 ⊢
      generalize hqf : wr.heap.size + 1 = qf at F1 ⊢
      generalize hqc : wr.heap.size = qc at C1 hqf hwr ⊢
      have hnc : w.heap.size ≤ qc := by omega
      have hnf : w.heap.size ≤ qf := by omega
      have k1 : qc ≠ qf := by omega
      have k2 := k1.symm
      have k3 : w.heap.size ≠ qc := by omega
      have k4 := k3.symm
      have k5 : w.heap.size ≠ qf := by omega
      have k6 := k5.symm
      clear hqf hqc hwr x0 x1 x3 x4 x6 x7 x8 x9 x10 xl HI
      have HI1 := Lib.hid I1
      have HC1 := Lib.hid C1
      have HF1 := Lib.hid F1
      obtain ⟨x0, x1, x3, x4, x6, x7, x8, x9, x10, xl⟩ := SunX.all I1.X
      obtain ⟨f0, f1, f2', z0, z1, z2, fl⟩ := FB.all I1.F
      obtain ⟨d0, d1, d2, d3, y0', y1, y2', y3, dl⟩ := CB0.all C1
      obtain ⟨g0, g1, g2, o0, o1, o2, gl⟩ := FB.all F1
      clear I1 C1 F1
      obtain ⟨pr, hpr⟩ : ∃ pr, Y * h.W = pr := ⟨_, rfl⟩
      have hN1 : Y * h.W + h.W ≤ h.W * h.H := by rw [← Nat.succ_mul, Nat.mul_comm h.W h.H]; exact Nat.mul_le_mul_right _ HYY.out
      have hN2 : h.W * h.H ≤ 16384 * 16384 := Nat.mul_le_mul HH.out.w2 HH.out.h2
      have HPR := Lib.hid hpr
      have HI4 : Hid (4 * (pr + i) = 4 * Q.length) := Lib.hid (by rw [HQ.out, HLL.out, ← hpr])
      have HPB : Hid (pr ≤ 1073741824) := Lib.hid (by omega)
      have HQB : Hid (4 * (Q.length + 1) ≤ 4 * (h.W * h.H)) := Lib.hid (by rw [HQ.out, HLL.out]; omega)
      have HN2 := Lib.hid hN2
      have HIW := Lib.hid hi4
      clear hpr hN1 hN2 hi hi4
      have hb8 : (h.bits : Int) = 8 := by omega
      have HB32 : Hid (h.bits ≤ 32) := Lib.hid (by omega)
      have HB1 : Hid (∀ n : Nat, h.bits = 1 → n ≤ 1) := Lib.hid (fun n hb => by omega)
      go_wp2_with fail
      refine (HN.out _ _ _ _ _ _ HI1.out.S HI1.out.L HI1.out.X HI1.out.ok HI1.out.yok HI1.out.yr).mono ?_
      rintro e w2 ⟨y2, l2, ok2, b2, tn, hor⟩
      have F2 := FB.turn HI1.out.F tn (by simp only [List.mem_cons, List.not_mem_nil, or_false, not_or]; exact ⟨Blk.ne_ HI1.out.F HI1.out.S (by decide), Blk.ne_ HI1.out.F HI1.out.L (by decide), Blk.ne_ HI1.out.F HI1.out.X (by decide)⟩)
      have C2 : CB0 w2 qc := Blk.turn HC1.out tn (by simp only [List.mem_cons, List.not_mem_nil, or_false, not_or]; exact ⟨Blk.ne_ HC1.out HI1.out.S (by decide), Blk.ne_ HC1.out HI1.out.L (by decide), Blk.ne_ HC1.out HI1.out.X (by decide)⟩)
      have G2 := FB.turn HF1.out tn (by simp only [List.mem_cons, List.not_mem_nil, or_false, not_or]; exact ⟨Blk.ne_ HF1.out HI1.out.S (by decide), Blk.ne_ HF1.out HI1.out.L (by decide), Blk.ne_ HF1.out HI1.out.X (by decide)⟩)
      have B2 := HI1.out.B.turn tn (by simp only [List.mem_cons, List.not_mem_nil, or_false, not_or]; exact ⟨Blk.ne_ HI1.out.B.blk HI1.out.S (by decide), Blk.ne_ HI1.out.B.blk HI1.out.L (by decide), Blk.ne_ HI1.out.B.blk HI1.out.X (by decide)⟩) (by simp only [List.mem_cons, List.not_mem_nil, or_false, not_or]; exact ⟨Blk.ne_ HI1.out.B.row HI1.out.S (by decide), Blk.ne_ HI1.out.B.row HI1.out.L (by decide), Blk.ne_ HI1.out.B.row HI1.out.X (by decide)⟩)
      have T2 := HI1.out.T.trans (tn.mono (S' := [p, g, x, d]) (by simp))
      clear x0 x1 x3 x4 x6 x7 x8 x9 x10 xl f0 f1 f2' z0 z1 z2 fl d0 d1 d2 d3 y0' y1 y2' y3 dl g0 g1 g2 o0 o1 o2 gl
      obtain ⟨f0, f1, f2', z0, z1, z2, fl⟩ := FB.all F2; obtain ⟨d0, d1, d2, d3, y0', y1, y2', y3, dl⟩ := CB0.all C2; obtain ⟨g0, g1, g2, o0, o1, o2, gl⟩ := FB.all G2
      simp only [fltV, flt0] at hor
      rcases hor with ⟨kk, aa, u, uu, t2, hk, rfl, X2, hno⟩ | ⟨v2, q2, t2, rfl, hv2, hq2, t2ok, yr2, s2, X2, hyes⟩
      · have hkI : ¬ (kk : Int) = 0 := by omega
        obtain ⟨x0, x1, x3, x4, x6, x7, x8, x9, x10, xl⟩ := SunX.all X2
        go_upto_region 13 with fail
        generalize hw9 : (((w2.setCell ⟨qf, 0, none⟩ (.int .i64 (kk : Int))).setCell ⟨qf, 1, none⟩ (.int .i64 8)).setCell ⟨qf, 2, none⟩ (.int .i64 (aa : Int))) = w9
        have X9 : SunX w9 p x h lv fn t2 := by rw [← hw9]; exact Blk.st3 X2 (Blk.ne_ X2 G2 (by decide))
        have F9 : FB w9 w.heap.size 0 0 0 := by rw [← hw9]; exact Blk.st3 F2 k5
        have G9 : FB w9 qf (kk : Int) 8 (aa : Int) := by rw [← hw9]; exact FB.st3 G2
        have L9 : LedAt w9 g y2 := by rw [← hw9]; exact Blk.st3 l2 (Blk.ne_ l2 G2 (by decide))
        have B9 : BufAt w9 b g d (pixL Q (4 * (h.W * h.H))) := by rw [← hw9]; exact ⟨Blk.st3 B2.blk (Blk.ne_ B2.blk G2 (by decide)), Blk.st3 B2.row (Blk.ne_ B2.row G2 (by decide))⟩
        have T9 : Turn [p, g, x, d] w w9 := by rw [← hw9]; exact Turn.st3 T2 (.inr hnf)
        have HD := Lib.hid (And.intro L9 (And.intro B9 T9))
        clear x0 x1 x3 x4 x6 x7 x8 x9 x10 xl f0 f1 f2' z0 z1 z2 fl d0 d1 d2 d3 y0' y1 y2' y3 dl g0 g1 g2 o0 o1 o2 gl C2 F2 G2 X2 B2 T2 l2 tn hw9
        obtain ⟨x0, x1, x3, x4, x6, x7, x8, x9, x10, xl⟩ := SunX.all X9
        obtain ⟨f0, f1, f2', z0, z1, z2, fl⟩ := FB.all F9
        obtain ⟨g0, g1, g2, o0, o1, o2, gl⟩ := FB.all G9
        have lf := Blk.ne_ HD.out.1 F9 (by decide)
        have bf := Blk.ne_ HD.out.2.1.blk F9 (by decide)
        have df := Blk.ne_ HD.out.2.1.row F9 (by decide)
        clear X9 F9 G9 L9 B9 T9
        go_wp2_with fail
        exact bodyPost_ret (v := fltV kk aa) (by simp [results, Tryz.results141, go_sem, f0, f1, f2', fltV]) rfl ⟨y2, Q, Blk.st3 HD.out.1 lf, ok2, b2.trans HI1.out.yb, Turn.st3 HD.out.2.2 (.inr (Nat.le_refl _)), ⟨Blk.st3 HD.out.2.1.blk bf, Blk.st3 HD.out.2.1.row df⟩, by have := HQB.out; omega, .inl ⟨kk, aa, hk, rfl, fun k => by rw [HRUN.out k, sunRow_succ, sunPixel_byte hbits]; exact hno _⟩⟩
      · have I2 := HI1.out.rd tn s2 l2 X2 t2ok ok2 yr2 b2
        go_upto_region 11 with fail
        generalize hw3 : (((w2.setCell ⟨qf, 0, none⟩ (.int .i64 0)).setCell ⟨qf, 1, none⟩ (.int .i64 0)).setCell ⟨qf, 2, none⟩ (.int .i64 0)) = w3
        have I3 : RowI w w3 p g x r b d w.heap.size s h lv fn t2 Q y y2 := by rw [← hw3]; exact I2.st3 G2 k6 hnf
        have C3 : CB0 w3 qc := by rw [← hw3]; exact Blk.st3 C2 k1
        have G3 : FB w3 qf 0 0 0 := by rw [← hw3]; exact FB.st3 G2
        have HI3 := Lib.hid I3
        have HC3 := Lib.hid C3
        have HG3 := Lib.hid G3
        have hv2I : (v2 : Int) < 256 := by omega
        have HV2 := Lib.hid hv2
        have HQ2 := Lib.hid hq2
        have HYE := Lib.hid hyes
        clear f0 f1 f2' z0 z1 z2 fl d0 d1 d2 d3 y0' y1 y2' y3 dl g0 g1 g2 o0 o1 o2 gl I2 C2 F2 G2 X2 B2 T2 tn hw3 s2 l2 t2ok ok2 yr2 b2 hv2 hq2 hyes
        obtain ⟨x0, x1, x3, x4, x6, x7, x8, x9, x10, xl⟩ := SunX.all I3.X
        obtain ⟨f0, f1, f2', z0, z1, z2, fl⟩ := FB.all I3.F; obtain ⟨d0, d1, d2, d3, y0', y1, y2', y3, dl⟩ := CB0.all C3; obtain ⟨g0, g1, g2, o0, o1, o2, gl⟩ := FB.all G3
        clear I3 C3 G3
        go_upto_region 13 with (go_at_call 193; refine (sunEntryC (v := v2) (q := q2) HI3.out.X HI3.out.M HV2.out (HB1.out v2) HB32.out).mono ?_; rintro e w4 he; obtain ⟨b4, hor4⟩ := he.ways; have I2 := HI3.out.below b4; have C2 : CB0 w4 qc := Blk.below HC3.out b4 (Blk.lt HC3.out); have G2 := FB.below HG3.out b4; clear x0 x1 x3 x4 x6 x7 x8 x9 x10 xl f0 f1 f2' z0 z1 z2 fl d0 d1 d2 d3 y0' y1 y2' y3 dl g0 g1 g2 o0 o1 o2 gl; obtain ⟨x0, x1, x3, x4, x6, x7, x8, x9, x10, xl⟩ := SunX.all I2.X; obtain ⟨f0, f1, f2', z0, z1, z2, fl⟩ := FB.all I2.F; obtain ⟨d0, d1, d2, d3, y0', y1, y2', y3, dl⟩ := CB0.all C2; obtain ⟨g0, g1, g2, o0, o1, o2, gl⟩ := FB.all G2; simp only [fltV, flt0, Qc.v, colV0] at hor4; rcases hor4 with ⟨c, hse, rfl⟩ | ⟨hse, rfl⟩)
        · generalize hw9 : (((((((w4.setCell ⟨qc, 0, none⟩ (.int .u8 (c.r.toNat : Int))).setCell ⟨qc, 1, none⟩ (.int .u8 (c.g.toNat : Int))).setCell ⟨qc, 2, none⟩ (.int .u8 (c.b.toNat : Int))).setCell ⟨qc, 3, none⟩ (.int .u8 (c.a.toNat : Int))).setCell ⟨qf, 0, none⟩ (.int .i64 0)).setCell ⟨qf, 1, none⟩ (.int .i64 0)).setCell ⟨qf, 2, none⟩ (.int .i64 0)) = w9
          have I3 : RowI w w9 p g x r b d w.heap.size s h lv fn t2 Q y y2 := by rw [← hw9]; exact (I2.sv4 C2 hnc).st3 (Blk.sv4 G2 k2) k6 hnf
          have C9 : Blk w9 qc 131 #[.int .u8 (c.r.toNat : Int), .int .u8 (c.g.toNat : Int), .int .u8 (c.b.toNat : Int), .int .u8 (c.a.toNat : Int)] := by rw [← hw9]; exact Blk.st3 ((Blk.set_ (Blk.set_ (Blk.set_ (Blk.set_ C2 0 _) 1 _) 2 _) 3 _).eq_ rfl) k1
          have G9 : FB w9 qf 0 0 0 := by rw [← hw9]; exact FB.st3 (Blk.sv4 G2 k2)
          have HI3 := Lib.hid I3
          clear x0 x1 x3 x4 x6 x7 x8 x9 x10 xl f0 f1 f2' z0 z1 z2 fl d0 d1 d2 d3 y0' y1 y2' y3 dl g0 g1 g2 o0 o1 o2 gl I2 C2 G2 hw9
          obtain ⟨x0, x1, x3, x4, x6, x7, x8, x9, x10, xl⟩ := SunX.all I3.X
          obtain ⟨f0, f1, f2', z0, z1, z2, fl⟩ := FB.all I3.F
          obtain ⟨g0, g1, g2, o0, o1, o2, gl⟩ := FB.all G9
          have d0 := Blk.cell C9 0
          have d1 := Blk.cell C9 1
          have d2 := Blk.cell C9 2
          have d3 := Blk.cell C9 3
          have dl := Blk.lt C9
          clear I3 C9 G9
          go_wp2_with (first
            | (go_at_call 61; refine (srcFault_is 8 s5 l5 (.inl ⟨yr5, rfl, rfl⟩)).mono ?_; rintro e w6 ⟨rfl, b6⟩; have l6 := Blk.below l5 b6 (Blk.lt l5); have FF6 := FB.below FF5 b6; have BB6 : BufAt w6 b g d (pixL Q (4 * (h.W * h.H))) := ⟨Blk.below BB5.blk b6 (Blk.lt BB5.blk), Blk.below BB5.row b6 (Blk.lt BB5.row)⟩; have T6 := T5.trans (Turn.of_below (S := [p, g, x, d]) b6); clear x0 x1 x3 x4 x6 x7 x8 x9 x10 xl f0 f1 f2' z0 z1 z2 fl d0 d1 d2 d3 dl g0 g1 g2 o0 o1 o2 gl; obtain ⟨f0, f1, f2', z0, z1, z2, fl⟩ := FB.all FF6)
            | (go_at_call 159; refine (rasSet_ways (c0 := c.r) (c1 := c.g) (c2 := c.b) (c3 := c.a) HI3.out.R HI3.out.B HI3.out.L HI3.out.yok HI3.out.yr HIW.out HYY.out HPR.out HI4.out HPB.out HH.out.w2 HH.out.h2 (by rw [pixL_len (by have := HQB.out; omega)]; exact HQB.out) (by rw [pixL_len (by have := HQB.out; omega)]; have := HN2.out; omega)).mono ?_; rintro e w5 ⟨y5, l5, ok5, b5, hor5⟩; rcases hor5 with ⟨rfl, t5, yr5, hno5⟩ | ⟨rfl, t5, B5, yr5, hyes5⟩; all_goals (try (have s5 : SrcAt w5 p g s 0 s.size t2.a := HI3.out.S.turn t5 (by simpa using Blk.ne_ HI3.out.S HI3.out.L (by decide)); have FF5 : FB w5 w.heap.size 0 0 0 := FB.turn HI3.out.F t5 (by simpa using Blk.ne_ HI3.out.F HI3.out.L (by decide)); have BB5 := HI3.out.B.turn t5 (by simpa using Blk.ne_ HI3.out.B.blk HI3.out.L (by decide)) (by simpa using Blk.ne_ HI3.out.B.row HI3.out.L (by decide)); have T5 := HI3.out.T.trans (t5.mono (S' := [p, g, x, d]) (by simp)); have XX5 : SunX w5 p x h lv fn t2 := Blk.turn HI3.out.X t5 (by simpa using Blk.ne_ HI3.out.X HI3.out.L (by decide)); clear x0 x1 x3 x4 x6 x7 x8 x9 x10 xl f0 f1 f2' z0 z1 z2 fl; obtain ⟨x0, x1, x3, x4, x6, x7, x8, x9, x10, xl⟩ := SunX.all XX5; obtain ⟨f0, f1, f2', z0, z1, z2, fl⟩ := FB.all FF5))))
          · exact bodyPost_ret (v := fltV 4 t2.a) (by simp [results, Tryz.results141, go_sem, f0, f1, f2', fltV]) rfl ⟨y5, Q, Blk.st3 l6 (Blk.ne_ l6 FF6 (by decide)), ok5, b5.trans HI3.out.yb, Turn.st3 T6 (.inr (Nat.le_refl _)), ⟨Blk.st3 BB6.blk (Blk.ne_ BB6.blk FF6 (by decide)), Blk.st3 BB6.row (Blk.ne_ BB6.row FF6 (by decide))⟩, by have := HQB.out; omega, .inl ⟨4, t2.a, by decide, rfl, fun k => by rw [HRUN.out k, sunRow_succ, sunPixel_byte hbits, HYE.out, sunEntry_some hse]; exact hno5 _ _ _⟩⟩
          · have B5' : BufAt w5 b g d (pixL (Q ++ [c]) (4 * (h.W * h.H))) := by rw [← pixL_next c HQB.out]; exact B5
            have HI5 := Lib.hid (HI3.out.set t5 B5' l5 ok5 yr5 b5)
            clear x0 x1 x3 x4 x6 x7 x8 x9 x10 xl f0 f1 f2' z0 z1 z2 fl d0 d1 d2 d3 dl g0 g1 g2 o0 o1 o2 gl B5 B5'
            go_roundg gm
            case measure => omega
            case rel => exact ⟨i + 1, gm, v2, q2, t2, y5, Q ++ [c], rfl, by have := HIG.out; omega, rfl, rfl, by go_num, Lib.hid ⟨HI5.out, HV2.out, HQ2.out, by rw [List.length_append, HQ.out]; rfl, fun k => by rw [HRUN.out k, sunRow_succ, sunPixel_byte hbits, HYE.out, sunEntry_some hse]; exact hyes5 _ _ _⟩⟩
        · have HI2 := Lib.hid I2
          have X2 := I2.X
          have F2 := I2.F
          have l2 := I2.L
          have B2 := I2.B
          have T2 := I2.T
          clear I2
          generalize hw9 : (((((((w4.setCell ⟨qc, 0, none⟩ (.int .u8 0)).setCell ⟨qc, 1, none⟩ (.int .u8 0)).setCell ⟨qc, 2, none⟩ (.int .u8 0)).setCell ⟨qc, 3, none⟩ (.int .u8 0)).setCell ⟨qf, 0, none⟩ (.int .i64 2)).setCell ⟨qf, 1, none⟩ (.int .i64 8)).setCell ⟨qf, 2, none⟩ (.int .i64 (q2 : Int))) = w9
          have X9 : SunX w9 p x h lv fn t2 := by rw [← hw9]; exact Blk.st3 (Blk.sv4 X2 (Blk.ne_ X2 C2 (by decide))) (Blk.ne_ X2 G2 (by decide))
          have F9 : FB w9 w.heap.size 0 0 0 := by rw [← hw9]; exact Blk.st3 (Blk.sv4 F2 (Blk.ne_ F2 C2 (by decide))) k5
          have G9 : FB w9 qf 2 8 (q2 : Int) := by rw [← hw9]; exact FB.st3 (Blk.sv4 G2 k2)
          have L9 : LedAt w9 g y2 := by rw [← hw9]; exact Blk.st3 (Blk.sv4 l2 (Blk.ne_ l2 C2 (by decide))) (Blk.ne_ l2 G2 (by decide))
          have B9 : BufAt w9 b g d (pixL Q (4 * (h.W * h.H))) := by rw [← hw9]; exact ⟨Blk.st3 (Blk.sv4 B2.blk (Blk.ne_ B2.blk C2 (by decide))) (Blk.ne_ B2.blk G2 (by decide)), Blk.st3 (Blk.sv4 B2.row (Blk.ne_ B2.row C2 (by decide))) (Blk.ne_ B2.row G2 (by decide))⟩
          have T9 : Turn [p, g, x, d] w w9 := by rw [← hw9]; exact Turn.st3 (Turn.sv4 T2 (.inr hnc)) (.inr hnf)
          have HD := Lib.hid (And.intro L9 (And.intro B9 T9))
          clear x0 x1 x3 x4 x6 x7 x8 x9 x10 xl f0 f1 f2' z0 z1 z2 fl d0 d1 d2 d3 y0' y1 y2' y3 dl g0 g1 g2 o0 o1 o2 gl C2 F2 G2 X2 B2 T2 l2  hw9
          obtain ⟨x0, x1, x3, x4, x6, x7, x8, x9, x10, xl⟩ := SunX.all X9
          obtain ⟨f0, f1, f2', z0, z1, z2, fl⟩ := FB.all F9
          obtain ⟨g0, g1, g2, o0, o1, o2, gl⟩ := FB.all G9
          have lf := Blk.ne_ HD.out.1 F9 (by decide)
          have bf := Blk.ne_ HD.out.2.1.blk F9 (by decide)
          have df := Blk.ne_ HD.out.2.1.row F9 (by decide)
          clear X9 F9 G9 L9 B9 T9
          go_wp2_with fail
          exact bodyPost_ret (v := fltV 2 q2) (by simp [results, Tryz.results141, go_sem, f0, f1, f2', fltV]) rfl ⟨y2, Q, Blk.st3 HD.out.1 lf, HI2.out.yok, HI2.out.yb, Turn.st3 HD.out.2.2 (.inr (Nat.le_refl _)), ⟨Blk.st3 HD.out.2.1.blk bf, Blk.st3 HD.out.2.1.row df⟩, by have := HQB.out; omega, .inl ⟨2, q2, by decide, rfl, fun k => by rw [HRUN.out k, sunRow_succ, sunPixel_byte hbits, HYE.out, sunEntry_none hse]; exact rfl⟩⟩
    · have hiw : i = h.W := by omega
      have hg0 : gk = 0 := by omega
      have hiI : ¬ (i : Int) < (h.W : Int) := by omega
      subst hg0
      obtain ⟨f0, f1, f2', z0, z1, z2, fl⟩ := FB.all HI.out.F
      have HL' : Hid (Q.length = L.length + h.W) := Lib.hid (by rw [HQ.out, hiw])
      clear hi hi4 hiw
      go_wp2_with (go_at_call 194; refine (sunFillC HNN.out HH.out HI.out.S HI.out.L HI.out.X HI.out.ok HI.out.yok HI.out.yr).mono ?_; rintro e w2 ⟨y2, l2, ok2, b2, tn, hor⟩; have F2 : FB w2 w.heap.size 0 0 0 := FB.turn HI.out.F tn (by simp only [List.mem_cons, List.not_mem_nil, or_false, not_or]; exact ⟨Blk.ne_ HI.out.F HI.out.S (by decide), Blk.ne_ HI.out.F HI.out.L (by decide), Blk.ne_ HI.out.F HI.out.X (by decide)⟩); have B2 := HI.out.B.turn tn (by simp only [List.mem_cons, List.not_mem_nil, or_false, not_or]; exact ⟨Blk.ne_ HI.out.B.blk HI.out.S (by decide), Blk.ne_ HI.out.B.blk HI.out.L (by decide), Blk.ne_ HI.out.B.blk HI.out.X (by decide)⟩) (by simp only [List.mem_cons, List.not_mem_nil, or_false, not_or]; exact ⟨Blk.ne_ HI.out.B.row HI.out.S (by decide), Blk.ne_ HI.out.B.row HI.out.L (by decide), Blk.ne_ HI.out.B.row HI.out.X (by decide)⟩); have T2 := HI.out.T.trans (tn.mono (S' := [p, g, x, d]) (by simp)); clear f0 f1 f2' z0 z1 z2 fl x0 x1 x3 x4 x6 x7 x8 x9 x10 xl; obtain ⟨f0, f1, f2', z0, z1, z2, fl⟩ := FB.all F2; simp only [fltV, flt0] at hor; rcases hor with ⟨kk, aa, hk, rfl, hno⟩ | ⟨t2, rfl, t2ok, yr2, s2, X2, hyes⟩)
      · exact bodyPost_ret (v := fltV kk aa) (by simp [results, Tryz.results141, go_sem, f0, f1, f2', fltV]) rfl ⟨y2, Q, Blk.st3 l2 (Blk.ne_ l2 F2 (by decide)), ok2, b2.trans HI.out.yb, Turn.st3 T2 (.inr (Nat.le_refl _)), ⟨Blk.st3 B2.blk (Blk.ne_ B2.blk F2 (by decide)), Blk.st3 B2.row (Blk.ne_ B2.row F2 (by decide))⟩, sunRow_len HYY.out HL'.out HLL.out, .inl ⟨kk, aa, hk, rfl, fun k => by rw [HRUN.out k]; exact hno _⟩⟩
      · exact bodyPost_ret (v := flt0) (by simp [results, Tryz.results141, go_sem, f0, f1, f2', flt0]) rfl ⟨y2, Q, Blk.st3 l2 (Blk.ne_ l2 F2 (by decide)), ok2, b2.trans HI.out.yb, Turn.st3 T2 (.inr (Nat.le_refl _)), ⟨Blk.st3 B2.blk (Blk.ne_ B2.blk F2 (by decide)), Blk.st3 B2.row (Blk.ne_ B2.row F2 (by decide))⟩, sunRow_len HYY.out HL'.out HLL.out, .inr ⟨t2, rfl, t2ok, yr2, Blk.st3 s2 (Blk.ne_ s2 F2 (by decide)), Blk.st3 X2 (Blk.ne_ X2 F2 (by decide)), HL'.out, fun k => by rw [HRUN.out k]; exact hyes _⟩⟩
end Go.Proofs.YtccldalagbfmhaaGreat
namespace Go.Proofs.YtccldalagbfmhaaGreat
open Go.RowKit
set_option linter.unusedVariables false
set_option linter.unusedSimpArgs false

set_option maxRecDepth 100000 in
set_option maxHeartbeats 2000000 in
theorem sunRow_bit {w : World} {p g x r b d z Y fn : Nat} {pk : Bool} {s : ByteArray} {h : SunHd} {lv : Value} {t : SunSt} {L : List Qc} {y : Led} (N : IsNext s h lv fn pk z) (hh : h.Ok) (hsm : s.size ≤ 1099511627776) (hbits : h.bits = 1) (S0 : SrcAt w p g s 0 s.size t.a) (L0 : LedAt w g y) (X0 : SunX w p x h lv fn t) (R0 : RasAt w r g b (h.W : Int) (h.H : Int) true) (B0 : BufAt w b g d (pixL L (4 * (h.W * h.H)))) (M0 : MapAt w g s h lv (b, d)) (tok : t.Ok s) (ok : y.Ok) (hr : y.reason = 0) (hL : L.length = Y * h.W) (hY : Y < h.H) :
    Calls Tryz.prog 141 #[.pointer (some ⟨x, 0, none⟩), .pointer (some ⟨r, 0, none⟩), .int .i64 (Y : Int)] w fun e w' => RowPost w w' p g x r b d s h lv fn pk z t L y e := by
  have HNN := Lib.hid N
  obtain ⟨HE, HN'⟩ := N
  have HN := Lib.hid HN'
  clear HN'
  have I0 : RowI w (w.alloc (.cells #[.int .i64 0, .int .i64 0, .int .i64 0] 31)) p g x r b d w.heap.size s h lv fn t L y y :=
    ⟨Blk.alloc S0 _, Blk.alloc L0 _, Blk.alloc X0 _, Blk.alloc R0 _, ⟨Blk.alloc B0.blk _, Blk.alloc B0.row _⟩, M0.turn ((Turn.refl [] w).alloc _) (fun _ _ _ _ _ => ⟨by simp, by simp, by simp⟩), FB.new w, (Turn.refl _ _).alloc _, Nat.le_refl _, tok, ok, hr, rfl⟩
  have HH := Lib.hid hh
  have HLL := Lib.hid hL
  have HYY := Lib.hid hY
  have HW2 := hh.w2
  have HWI : (h.W : Int) ≤ 16384 := by omega
  have HWB := Lib.hid HW2
  clear HW2
  generalize hws : w.alloc (.cells #[.int .i64 0, .int .i64 0, .int .i64 0] 31) = ws at I0
  have HWS := Lib.hid hws
  have HI := Lib.hid I0
  clear S0 L0 X0 R0 B0 M0 tok ok hr I0 hws hh hL hY
  go_enter Tryz.func141, Tryz.ntmps141
  go_upto_region 1 with fail
  rw [HWS.out]
  obtain ⟨x0, x1, x3, x4, x6, x7, x8, x9, x10, xl⟩ := SunX.all HI.out.X
  go_wp2_with fail
  go_loopg [7, 8, 17] h.W (fun gh v7 v8 v17 wr => ∃ (i gk v q : Nat) (t' : SunSt) (y' : Led) (Q : List Qc), gk = gh ∧ i + gk = h.W ∧ v7 = .int .i64 (v : Int) ∧ v8 = .int .i64 (q : Int) ∧ v17 = .int .i64 (i : Int) ∧ Hid (RowI w wr p g x r b d w.heap.size s h lv fn t' Q y y' ∧ v < 256 ∧ q ≤ s.size ∧ Q.length = L.length + i ∧ ∀ k, (sunRow s pk z h (sunFills h) h.W 0 0 0 t L k).run y = (sunRow s pk z h (sunFills h) gk i v q t' Q k).run y'))
  case atStart => exact ⟨0, h.W, 0, 0, t, y, L, rfl, by omega, rfl, rfl, rfl, Lib.hid ⟨HI.out, by decide, Nat.zero_le _, rfl, fun k => rfl⟩⟩
  case round =>
    obtain ⟨i, gk, v, q, t', y', Q, rfl, hi, rfl, rfl, rfl, hP⟩ := hrel
    obtain ⟨I, hv, hq, hQ, hrun⟩ := hP.out
    clear HI hP x0 x1 x3 x4 x6 x7 x8 x9 x10 xl HWS
    have HQ := Lib.hid hQ
    have HRUN := Lib.hid hrun
    have HV := Lib.hid hv
    have HQQ := Lib.hid hq
    have hvI : (v : Int) < 256 := by omega
    have hqI : (q : Int) ≤ 1099511627776 := by omega
    obtain ⟨x0, x1, x3, x4, x6, x7, x8, x9, x10, xl⟩ := SunX.all I.X
    have HI := Lib.hid I
    clear I hrun hv hq hQ
    by_cases hi4 : i < h.W
    · have hiI : (i : Int) < (h.W : Int) := by omega
      obtain ⟨gm, rfl⟩ : ∃ gm, gk = gm + 1 := ⟨gk - 1, by omega⟩
      have HIG := Lib.hid hi
      go_upto_region 7 with fail
      have I1 : RowI w ((wr.alloc (.cells #[.int .u8 0, .int .u8 0, .int .u8 0, .int .u8 0] 131)).alloc (.cells #[.int .i64 0, .int .i64 0, .int .i64 0] 31)) p g x r b d w.heap.size s h lv fn t' Q y y' := (HI.out.alloc _).alloc _
      have C1 : CB0 ((wr.alloc (.cells #[.int .u8 0, .int .u8 0, .int .u8 0, .int .u8 0] 131)).alloc (.cells #[.int .i64 0, .int .i64 0, .int .i64 0] 31)) wr.heap.size := Blk.alloc (Blk.new _ _ _) _
      have F1 : FB ((wr.alloc (.cells #[.int .u8 0, .int .u8 0, .int .u8 0, .int .u8 0] 131)).alloc (.cells #[.int .i64 0, .int .i64 0, .int .i64 0] 31)) (wr.heap.size + 1) 0 0 0 := Blk.new_at _ _ _ (sz1 _ _).symm
      have hwr : w.heap.size < wr.heap.size := Blk.lt HI.out.F
      generalize (wr.alloc (.cells #[.int .u8 0, .int .u8 0, .int .u8 0, .int .u8 0] 131)).alloc (.cells #[.int .i64 0, .int .i64 0, .int .i64 0] 31) = w1 at I1 C1 F1 ⊢
      generalize hqf : wr.heap.size + 1 = qf at F1 ⊢
      generalize hqc : wr.heap.size = qc at C1 hqf hwr ⊢
      have hnc : w.heap.size ≤ qc := by omega
      have hnf : w.heap.size ≤ qf := by omega
      have k1 : qc ≠ qf := by omega
      have k2 := k1.symm
      have k3 : w.heap.size ≠ qc := by omega
      have k4 := k3.symm
      have k5 : w.heap.size ≠ qf := by omega
      have k6 := k5.symm
      clear hqf hqc hwr x0 x1 x3 x4 x6 x7 x8 x9 x10 xl HI
      have HI1 := Lib.hid I1
      have HC1 := Lib.hid C1
      have HF1 := Lib.hid F1
      obtain ⟨x0, x1, x3, x4, x6, x7, x8, x9, x10, xl⟩ := SunX.all I1.X
      obtain ⟨f0, f1, f2', z0, z1, z2, fl⟩ := FB.all I1.F
      obtain ⟨d0, d1, d2, d3, y0', y1, y2', y3, dl⟩ := CB0.all C1
      obtain ⟨g0, g1, g2, o0, o1, o2, gl⟩ := FB.all F1
      clear I1 C1 F1
      obtain ⟨pr, hpr⟩ : ∃ pr, Y * h.W = pr := ⟨_, rfl⟩
      have hN1 : Y * h.W + h.W ≤ h.W * h.H := by rw [← Nat.succ_mul, Nat.mul_comm h.W h.H]; exact Nat.mul_le_mul_right _ HYY.out
      have hN2 : h.W * h.H ≤ 16384 * 16384 := Nat.mul_le_mul HH.out.w2 HH.out.h2
      have HPR := Lib.hid hpr
      have HI4 : Hid (4 * (pr + i) = 4 * Q.length) := Lib.hid (by rw [HQ.out, HLL.out, ← hpr])
      have HPB : Hid (pr ≤ 1073741824) := Lib.hid (by omega)
      have HQB : Hid (4 * (Q.length + 1) ≤ 4 * (h.W * h.H)) := Lib.hid (by rw [HQ.out, HLL.out]; omega)
      have HN2 := Lib.hid hN2
      have HIW := Lib.hid hi4
      clear hpr hN1 hN2 hi hi4
      have hb1 : (h.bits : Int) = 1 := by omega
      have hb8 : ¬ (h.bits : Int) = 8 := by omega
      have hb9 : ¬ (8 : Int) < (h.bits : Int) := by omega
      have HB32 : Hid (h.bits ≤ 32) := Lib.hid (by omega)
      obtain ⟨em, hem⟩ : ∃ em, i % 8 = em := ⟨_, rfl⟩
      obtain ⟨sh, hsh⟩ : ∃ sh, 7 - em = sh := ⟨_, rfl⟩
      have m1 : (i : Int) % 8 = (em : Int) := by omega
      have m2 : (i : Int).tmod 8 = (em : Int) := by rw [Int.tmod_eq_emod_of_nonneg (by omega)]; exact m1
      have m3 : (7 : Int) - (em : Int) = (sh : Int) := by omega
      have m4 : (em : Int) < 8 := by omega
      have m5 : (sh : Int) ≤ 7 := by omega
      have HEM := Lib.hid hem
      have HSH := Lib.hid hsh
      clear hem hsh
      by_cases he0 : em = 0
      · have m6 : (em : Int) = 0 := by omega
        have HI0 : Hid (i % 8 = 0) := Lib.hid (by rw [HEM.out]; exact he0)
        go_wp2_with fail
        refine (HN.out _ _ _ _ _ _ HI1.out.S HI1.out.L HI1.out.X HI1.out.ok HI1.out.yok HI1.out.yr).mono ?_
        rintro e w2 ⟨y2, l2, ok2, b2, tn, hor⟩
        have F2 := FB.turn HI1.out.F tn (by simp only [List.mem_cons, List.not_mem_nil, or_false, not_or]; exact ⟨Blk.ne_ HI1.out.F HI1.out.S (by decide), Blk.ne_ HI1.out.F HI1.out.L (by decide), Blk.ne_ HI1.out.F HI1.out.X (by decide)⟩)
        have C2 : CB0 w2 qc := Blk.turn HC1.out tn (by simp only [List.mem_cons, List.not_mem_nil, or_false, not_or]; exact ⟨Blk.ne_ HC1.out HI1.out.S (by decide), Blk.ne_ HC1.out HI1.out.L (by decide), Blk.ne_ HC1.out HI1.out.X (by decide)⟩)
        have G2 := FB.turn HF1.out tn (by simp only [List.mem_cons, List.not_mem_nil, or_false, not_or]; exact ⟨Blk.ne_ HF1.out HI1.out.S (by decide), Blk.ne_ HF1.out HI1.out.L (by decide), Blk.ne_ HF1.out HI1.out.X (by decide)⟩)
        have B2 := HI1.out.B.turn tn (by simp only [List.mem_cons, List.not_mem_nil, or_false, not_or]; exact ⟨Blk.ne_ HI1.out.B.blk HI1.out.S (by decide), Blk.ne_ HI1.out.B.blk HI1.out.L (by decide), Blk.ne_ HI1.out.B.blk HI1.out.X (by decide)⟩) (by simp only [List.mem_cons, List.not_mem_nil, or_false, not_or]; exact ⟨Blk.ne_ HI1.out.B.row HI1.out.S (by decide), Blk.ne_ HI1.out.B.row HI1.out.L (by decide), Blk.ne_ HI1.out.B.row HI1.out.X (by decide)⟩)
        have T2 := HI1.out.T.trans (tn.mono (S' := [p, g, x, d]) (by simp))
        clear x0 x1 x3 x4 x6 x7 x8 x9 x10 xl f0 f1 f2' z0 z1 z2 fl d0 d1 d2 d3 y0' y1 y2' y3 dl g0 g1 g2 o0 o1 o2 gl
        obtain ⟨f0, f1, f2', z0, z1, z2, fl⟩ := FB.all F2; obtain ⟨d0, d1, d2, d3, y0', y1, y2', y3, dl⟩ := CB0.all C2; obtain ⟨g0, g1, g2, o0, o1, o2, gl⟩ := FB.all G2
        simp only [fltV, flt0] at hor
        rcases hor with ⟨kk, aa, u, uu, t2, hk, rfl, X2, hno⟩ | ⟨v2, q2, t2, rfl, hv2, hq2, t2ok, yr2, s2, X2, hyes⟩
        · have hkI : ¬ (kk : Int) = 0 := by omega
          obtain ⟨x0, x1, x3, x4, x6, x7, x8, x9, x10, xl⟩ := SunX.all X2
          go_upto_region 13 with fail
          generalize hw9 : (((w2.setCell ⟨qf, 0, none⟩ (.int .i64 (kk : Int))).setCell ⟨qf, 1, none⟩ (.int .i64 8)).setCell ⟨qf, 2, none⟩ (.int .i64 (aa : Int))) = w9
          have X9 : SunX w9 p x h lv fn t2 := by rw [← hw9]; exact Blk.st3 X2 (Blk.ne_ X2 G2 (by decide))
          have F9 : FB w9 w.heap.size 0 0 0 := by rw [← hw9]; exact Blk.st3 F2 k5
          have G9 : FB w9 qf (kk : Int) 8 (aa : Int) := by rw [← hw9]; exact FB.st3 G2
          have L9 : LedAt w9 g y2 := by rw [← hw9]; exact Blk.st3 l2 (Blk.ne_ l2 G2 (by decide))
          have B9 : BufAt w9 b g d (pixL Q (4 * (h.W * h.H))) := by rw [← hw9]; exact ⟨Blk.st3 B2.blk (Blk.ne_ B2.blk G2 (by decide)), Blk.st3 B2.row (Blk.ne_ B2.row G2 (by decide))⟩
          have T9 : Turn [p, g, x, d] w w9 := by rw [← hw9]; exact Turn.st3 T2 (.inr hnf)
          have HD := Lib.hid (And.intro L9 (And.intro B9 T9))
          clear x0 x1 x3 x4 x6 x7 x8 x9 x10 xl f0 f1 f2' z0 z1 z2 fl d0 d1 d2 d3 y0' y1 y2' y3 dl g0 g1 g2 o0 o1 o2 gl C2 F2 G2 X2 B2 T2 l2 tn hw9
          obtain ⟨x0, x1, x3, x4, x6, x7, x8, x9, x10, xl⟩ := SunX.all X9
          obtain ⟨f0, f1, f2', z0, z1, z2, fl⟩ := FB.all F9
          obtain ⟨g0, g1, g2, o0, o1, o2, gl⟩ := FB.all G9
          have lf := Blk.ne_ HD.out.1 F9 (by decide)
          have bf := Blk.ne_ HD.out.2.1.blk F9 (by decide)
          have df := Blk.ne_ HD.out.2.1.row F9 (by decide)
          clear X9 F9 G9 L9 B9 T9
          go_wp2_with fail
          exact bodyPost_ret (v := fltV kk aa) (by simp [results, Tryz.results141, go_sem, f0, f1, f2', fltV]) rfl ⟨y2, Q, Blk.st3 HD.out.1 lf, ok2, b2.trans HI1.out.yb, Turn.st3 HD.out.2.2 (.inr (Nat.le_refl _)), ⟨Blk.st3 HD.out.2.1.blk bf, Blk.st3 HD.out.2.1.row df⟩, by have := HQB.out; omega, .inl ⟨kk, aa, hk, rfl, fun k => by rw [HRUN.out k, sunRow_succ, sunPixel_bit0 hbits HI0.out]; exact hno _⟩⟩
        · have I2 := HI1.out.rd tn s2 l2 X2 t2ok ok2 yr2 b2
          go_upto_region 11 with fail
          generalize hw3 : (((w2.setCell ⟨qf, 0, none⟩ (.int .i64 0)).setCell ⟨qf, 1, none⟩ (.int .i64 0)).setCell ⟨qf, 2, none⟩ (.int .i64 0)) = w3
          have I3 : RowI w w3 p g x r b d w.heap.size s h lv fn t2 Q y y2 := by rw [← hw3]; exact I2.st3 G2 k6 hnf
          have C3 : CB0 w3 qc := by rw [← hw3]; exact Blk.st3 C2 k1
          have G3 : FB w3 qf 0 0 0 := by rw [← hw3]; exact FB.st3 G2
          have HI3 := Lib.hid I3
          have HC3 := Lib.hid C3
          have HG3 := Lib.hid G3
          have hv2I : (v2 : Int) < 256 := by omega
          have HV2 := Lib.hid hv2
          have HQ2 := Lib.hid hq2
          have HYE := Lib.hid hyes
          clear f0 f1 f2' z0 z1 z2 fl d0 d1 d2 d3 y0' y1 y2' y3 dl g0 g1 g2 o0 o1 o2 gl I2 C2 F2 G2 X2 B2 T2 tn hw3 s2 l2 t2ok ok2 yr2 b2 hv2 hq2 hyes
          obtain ⟨x0, x1, x3, x4, x6, x7, x8, x9, x10, xl⟩ := SunX.all I3.X
          obtain ⟨f0, f1, f2', z0, z1, z2, fl⟩ := FB.all I3.F; obtain ⟨d0, d1, d2, d3, y0', y1, y2', y3, dl⟩ := CB0.all C3; obtain ⟨g0, g1, g2, o0, o1, o2, gl⟩ := FB.all G3
          clear I3 C3 G3
          have hs7 : sh = 7 := by have := HSH.out; omega
          have HBIT : Hid (bits .and .i64 ((v2 : Int) / 128) 1 = ((v2 / 2 ^ sh % 2 : Nat) : Int)) := Lib.hid (by rw [hs7]; have h7 := bit_of (v := v2) (n := 7) (by omega); rw [show (2 : Int) ^ 7 = 128 by decide] at h7; exact h7)
          have HSE : Hid (v2 / 2 ^ sh % 2 = v2 / 2 ^ (7 - i % 8) % 2) := Lib.hid (by rw [HEM.out, HSH.out])
          go_upto_region 15 with (go_at_call 193; rw [HBIT.out]; refine (sunEntryC (v := v2 / 2 ^ sh % 2) (q := q2) HI3.out.X HI3.out.M (bit_lt _ _) (fun _ => bit_le _ _) HB32.out).mono ?_; rintro e w4 he; obtain ⟨b4, hor4⟩ := he.ways; have I2 := HI3.out.below b4; have C2 : CB0 w4 qc := Blk.below HC3.out b4 (Blk.lt HC3.out); have G2 := FB.below HG3.out b4; clear x0 x1 x3 x4 x6 x7 x8 x9 x10 xl f0 f1 f2' z0 z1 z2 fl d0 d1 d2 d3 y0' y1 y2' y3 dl g0 g1 g2 o0 o1 o2 gl; obtain ⟨x0, x1, x3, x4, x6, x7, x8, x9, x10, xl⟩ := SunX.all I2.X; obtain ⟨f0, f1, f2', z0, z1, z2, fl⟩ := FB.all I2.F; obtain ⟨d0, d1, d2, d3, y0', y1, y2', y3, dl⟩ := CB0.all C2; obtain ⟨g0, g1, g2, o0, o1, o2, gl⟩ := FB.all G2; rw [HSE.out] at hor4; simp only [fltV, flt0, Qc.v, colV0] at hor4; rcases hor4 with ⟨c, hse, rfl⟩ | ⟨hse, rfl⟩)
          · generalize hw9 : (((((((w4.setCell ⟨qc, 0, none⟩ (.int .u8 (c.r.toNat : Int))).setCell ⟨qc, 1, none⟩ (.int .u8 (c.g.toNat : Int))).setCell ⟨qc, 2, none⟩ (.int .u8 (c.b.toNat : Int))).setCell ⟨qc, 3, none⟩ (.int .u8 (c.a.toNat : Int))).setCell ⟨qf, 0, none⟩ (.int .i64 0)).setCell ⟨qf, 1, none⟩ (.int .i64 0)).setCell ⟨qf, 2, none⟩ (.int .i64 0)) = w9
            have I3 : RowI w w9 p g x r b d w.heap.size s h lv fn t2 Q y y2 := by rw [← hw9]; exact (I2.sv4 C2 hnc).st3 (Blk.sv4 G2 k2) k6 hnf
            have C9 : Blk w9 qc 131 #[.int .u8 (c.r.toNat : Int), .int .u8 (c.g.toNat : Int), .int .u8 (c.b.toNat : Int), .int .u8 (c.a.toNat : Int)] := by rw [← hw9]; exact Blk.st3 ((Blk.set_ (Blk.set_ (Blk.set_ (Blk.set_ C2 0 _) 1 _) 2 _) 3 _).eq_ rfl) k1
            have G9 : FB w9 qf 0 0 0 := by rw [← hw9]; exact FB.st3 (Blk.sv4 G2 k2)
            have HI3 := Lib.hid I3
            clear x0 x1 x3 x4 x6 x7 x8 x9 x10 xl f0 f1 f2' z0 z1 z2 fl d0 d1 d2 d3 y0' y1 y2' y3 dl g0 g1 g2 o0 o1 o2 gl I2 C2 G2 hw9
            obtain ⟨x0, x1, x3, x4, x6, x7, x8, x9, x10, xl⟩ := SunX.all I3.X
            obtain ⟨f0, f1, f2', z0, z1, z2, fl⟩ := FB.all I3.F
            obtain ⟨g0, g1, g2, o0, o1, o2, gl⟩ := FB.all G9
            have d0 := Blk.cell C9 0
            have d1 := Blk.cell C9 1
            have d2 := Blk.cell C9 2
            have d3 := Blk.cell C9 3
            have dl := Blk.lt C9
            clear I3 C9 G9
            go_wp2_with (first
              | (go_at_call 61; refine (srcFault_is 8 s5 l5 (.inl ⟨yr5, rfl, rfl⟩)).mono ?_; rintro e w6 ⟨rfl, b6⟩; have l6 := Blk.below l5 b6 (Blk.lt l5); have FF6 := FB.below FF5 b6; have BB6 : BufAt w6 b g d (pixL Q (4 * (h.W * h.H))) := ⟨Blk.below BB5.blk b6 (Blk.lt BB5.blk), Blk.below BB5.row b6 (Blk.lt BB5.row)⟩; have T6 := T5.trans (Turn.of_below (S := [p, g, x, d]) b6); clear x0 x1 x3 x4 x6 x7 x8 x9 x10 xl f0 f1 f2' z0 z1 z2 fl d0 d1 d2 d3 dl g0 g1 g2 o0 o1 o2 gl; obtain ⟨f0, f1, f2', z0, z1, z2, fl⟩ := FB.all FF6)
              | (go_at_call 159; refine (rasSet_ways (c0 := c.r) (c1 := c.g) (c2 := c.b) (c3 := c.a) HI3.out.R HI3.out.B HI3.out.L HI3.out.yok HI3.out.yr HIW.out HYY.out HPR.out HI4.out HPB.out HH.out.w2 HH.out.h2 (by rw [pixL_len (by have := HQB.out; omega)]; exact HQB.out) (by rw [pixL_len (by have := HQB.out; omega)]; have := HN2.out; omega)).mono ?_; rintro e w5 ⟨y5, l5, ok5, b5, hor5⟩; rcases hor5 with ⟨rfl, t5, yr5, hno5⟩ | ⟨rfl, t5, B5, yr5, hyes5⟩; all_goals (try (have s5 : SrcAt w5 p g s 0 s.size t2.a := HI3.out.S.turn t5 (by simpa using Blk.ne_ HI3.out.S HI3.out.L (by decide)); have FF5 : FB w5 w.heap.size 0 0 0 := FB.turn HI3.out.F t5 (by simpa using Blk.ne_ HI3.out.F HI3.out.L (by decide)); have BB5 := HI3.out.B.turn t5 (by simpa using Blk.ne_ HI3.out.B.blk HI3.out.L (by decide)) (by simpa using Blk.ne_ HI3.out.B.row HI3.out.L (by decide)); have T5 := HI3.out.T.trans (t5.mono (S' := [p, g, x, d]) (by simp)); have XX5 : SunX w5 p x h lv fn t2 := Blk.turn HI3.out.X t5 (by simpa using Blk.ne_ HI3.out.X HI3.out.L (by decide)); clear x0 x1 x3 x4 x6 x7 x8 x9 x10 xl f0 f1 f2' z0 z1 z2 fl; obtain ⟨x0, x1, x3, x4, x6, x7, x8, x9, x10, xl⟩ := SunX.all XX5; obtain ⟨f0, f1, f2', z0, z1, z2, fl⟩ := FB.all FF5))))
            · exact bodyPost_ret (v := fltV 4 t2.a) (by simp [results, Tryz.results141, go_sem, f0, f1, f2', fltV]) rfl ⟨y5, Q, Blk.st3 l6 (Blk.ne_ l6 FF6 (by decide)), ok5, b5.trans HI3.out.yb, Turn.st3 T6 (.inr (Nat.le_refl _)), ⟨Blk.st3 BB6.blk (Blk.ne_ BB6.blk FF6 (by decide)), Blk.st3 BB6.row (Blk.ne_ BB6.row FF6 (by decide))⟩, by have := HQB.out; omega, .inl ⟨4, t2.a, by decide, rfl, fun k => by rw [HRUN.out k, sunRow_succ, sunPixel_bit0 hbits HI0.out, HYE.out, sunEntry_some hse]; exact hno5 _ _ _⟩⟩
            · have B5' : BufAt w5 b g d (pixL (Q ++ [c]) (4 * (h.W * h.H))) := by rw [← pixL_next c HQB.out]; exact B5
              have HI5 := Lib.hid (HI3.out.set t5 B5' l5 ok5 yr5 b5)
              clear x0 x1 x3 x4 x6 x7 x8 x9 x10 xl f0 f1 f2' z0 z1 z2 fl d0 d1 d2 d3 dl g0 g1 g2 o0 o1 o2 gl B5 B5'
              go_roundg gm
              case measure => omega
              case rel => exact ⟨i + 1, gm, v2, q2, t2, y5, Q ++ [c], rfl, by have := HIG.out; omega, rfl, rfl, by go_num, Lib.hid ⟨HI5.out, HV2.out, HQ2.out, by rw [List.length_append, HQ.out]; rfl, fun k => by rw [HRUN.out k, sunRow_succ, sunPixel_bit0 hbits HI0.out, HYE.out, sunEntry_some hse]; exact hyes5 _ _ _⟩⟩
          · have HI2 := Lib.hid I2
            have X2 := I2.X
            have F2 := I2.F
            have l2 := I2.L
            have B2 := I2.B
            have T2 := I2.T
            clear I2
            generalize hw9 : (((((((w4.setCell ⟨qc, 0, none⟩ (.int .u8 0)).setCell ⟨qc, 1, none⟩ (.int .u8 0)).setCell ⟨qc, 2, none⟩ (.int .u8 0)).setCell ⟨qc, 3, none⟩ (.int .u8 0)).setCell ⟨qf, 0, none⟩ (.int .i64 2)).setCell ⟨qf, 1, none⟩ (.int .i64 8)).setCell ⟨qf, 2, none⟩ (.int .i64 (q2 : Int))) = w9
            have X9 : SunX w9 p x h lv fn t2 := by rw [← hw9]; exact Blk.st3 (Blk.sv4 X2 (Blk.ne_ X2 C2 (by decide))) (Blk.ne_ X2 G2 (by decide))
            have F9 : FB w9 w.heap.size 0 0 0 := by rw [← hw9]; exact Blk.st3 (Blk.sv4 F2 (Blk.ne_ F2 C2 (by decide))) k5
            have G9 : FB w9 qf 2 8 (q2 : Int) := by rw [← hw9]; exact FB.st3 (Blk.sv4 G2 k2)
            have L9 : LedAt w9 g y2 := by rw [← hw9]; exact Blk.st3 (Blk.sv4 l2 (Blk.ne_ l2 C2 (by decide))) (Blk.ne_ l2 G2 (by decide))
            have B9 : BufAt w9 b g d (pixL Q (4 * (h.W * h.H))) := by rw [← hw9]; exact ⟨Blk.st3 (Blk.sv4 B2.blk (Blk.ne_ B2.blk C2 (by decide))) (Blk.ne_ B2.blk G2 (by decide)), Blk.st3 (Blk.sv4 B2.row (Blk.ne_ B2.row C2 (by decide))) (Blk.ne_ B2.row G2 (by decide))⟩
            have T9 : Turn [p, g, x, d] w w9 := by rw [← hw9]; exact Turn.st3 (Turn.sv4 T2 (.inr hnc)) (.inr hnf)
            have HD := Lib.hid (And.intro L9 (And.intro B9 T9))
            clear x0 x1 x3 x4 x6 x7 x8 x9 x10 xl f0 f1 f2' z0 z1 z2 fl d0 d1 d2 d3 y0' y1 y2' y3 dl g0 g1 g2 o0 o1 o2 gl C2 F2 G2 X2 B2 T2 l2  hw9
            obtain ⟨x0, x1, x3, x4, x6, x7, x8, x9, x10, xl⟩ := SunX.all X9
            obtain ⟨f0, f1, f2', z0, z1, z2, fl⟩ := FB.all F9
            obtain ⟨g0, g1, g2, o0, o1, o2, gl⟩ := FB.all G9
            have lf := Blk.ne_ HD.out.1 F9 (by decide)
            have bf := Blk.ne_ HD.out.2.1.blk F9 (by decide)
            have df := Blk.ne_ HD.out.2.1.row F9 (by decide)
            clear X9 F9 G9 L9 B9 T9
            go_wp2_with fail
            exact bodyPost_ret (v := fltV 2 q2) (by simp [results, Tryz.results141, go_sem, f0, f1, f2', fltV]) rfl ⟨y2, Q, Blk.st3 HD.out.1 lf, HI2.out.yok, HI2.out.yb, Turn.st3 HD.out.2.2 (.inr (Nat.le_refl _)), ⟨Blk.st3 HD.out.2.1.blk bf, Blk.st3 HD.out.2.1.row df⟩, by have := HQB.out; omega, .inl ⟨2, q2, by decide, rfl, fun k => by rw [HRUN.out k, sunRow_succ, sunPixel_bit0 hbits HI0.out, HYE.out, sunEntry_none hse]; exact rfl⟩⟩
      · have m6 : ¬ (em : Int) = 0 := by omega
        have HI0 : Hid (i % 8 ≠ 0) := Lib.hid (by rw [HEM.out]; exact he0)
        have HBIT := Lib.hid (bit_of (v := v) (n := sh) (by omega))
        have HSE : Hid (v / 2 ^ sh % 2 = v / 2 ^ (7 - i % 8) % 2) := Lib.hid (by rw [HEM.out, HSH.out])
        go_upto_region 15 with (go_at_call 193; rw [HBIT.out]; refine (sunEntryC (v := v / 2 ^ sh % 2) (q := q) HI1.out.X HI1.out.M (bit_lt _ _) (fun _ => bit_le _ _) HB32.out).mono ?_; rintro e w4 he; obtain ⟨b4, hor4⟩ := he.ways; have I2 := HI1.out.below b4; have C2 : CB0 w4 qc := Blk.below HC1.out b4 (Blk.lt HC1.out); have G2 := FB.below HF1.out b4; clear x0 x1 x3 x4 x6 x7 x8 x9 x10 xl f0 f1 f2' z0 z1 z2 fl d0 d1 d2 d3 y0' y1 y2' y3 dl g0 g1 g2 o0 o1 o2 gl; obtain ⟨x0, x1, x3, x4, x6, x7, x8, x9, x10, xl⟩ := SunX.all I2.X; obtain ⟨f0, f1, f2', z0, z1, z2, fl⟩ := FB.all I2.F; obtain ⟨d0, d1, d2, d3, y0', y1, y2', y3, dl⟩ := CB0.all C2; obtain ⟨g0, g1, g2, o0, o1, o2, gl⟩ := FB.all G2; rw [HSE.out] at hor4; simp only [fltV, flt0, Qc.v, colV0] at hor4; rcases hor4 with ⟨c, hse, rfl⟩ | ⟨hse, rfl⟩)
        · generalize hw9 : (((((((w4.setCell ⟨qc, 0, none⟩ (.int .u8 (c.r.toNat : Int))).setCell ⟨qc, 1, none⟩ (.int .u8 (c.g.toNat : Int))).setCell ⟨qc, 2, none⟩ (.int .u8 (c.b.toNat : Int))).setCell ⟨qc, 3, none⟩ (.int .u8 (c.a.toNat : Int))).setCell ⟨qf, 0, none⟩ (.int .i64 0)).setCell ⟨qf, 1, none⟩ (.int .i64 0)).setCell ⟨qf, 2, none⟩ (.int .i64 0)) = w9
          have I3 : RowI w w9 p g x r b d w.heap.size s h lv fn t' Q y y' := by rw [← hw9]; exact (I2.sv4 C2 hnc).st3 (Blk.sv4 G2 k2) k6 hnf
          have C9 : Blk w9 qc 131 #[.int .u8 (c.r.toNat : Int), .int .u8 (c.g.toNat : Int), .int .u8 (c.b.toNat : Int), .int .u8 (c.a.toNat : Int)] := by rw [← hw9]; exact Blk.st3 ((Blk.set_ (Blk.set_ (Blk.set_ (Blk.set_ C2 0 _) 1 _) 2 _) 3 _).eq_ rfl) k1
          have G9 : FB w9 qf 0 0 0 := by rw [← hw9]; exact FB.st3 (Blk.sv4 G2 k2)
          have HI3 := Lib.hid I3
          clear x0 x1 x3 x4 x6 x7 x8 x9 x10 xl f0 f1 f2' z0 z1 z2 fl d0 d1 d2 d3 y0' y1 y2' y3 dl g0 g1 g2 o0 o1 o2 gl I2 C2 G2 hw9
          obtain ⟨x0, x1, x3, x4, x6, x7, x8, x9, x10, xl⟩ := SunX.all I3.X
          obtain ⟨f0, f1, f2', z0, z1, z2, fl⟩ := FB.all I3.F
          obtain ⟨g0, g1, g2, o0, o1, o2, gl⟩ := FB.all G9
          have d0 := Blk.cell C9 0
          have d1 := Blk.cell C9 1
          have d2 := Blk.cell C9 2
          have d3 := Blk.cell C9 3
          have dl := Blk.lt C9
          clear I3 C9 G9
          go_wp2_with (first
            | (go_at_call 61; refine (srcFault_is 8 s5 l5 (.inl ⟨yr5, rfl, rfl⟩)).mono ?_; rintro e w6 ⟨rfl, b6⟩; have l6 := Blk.below l5 b6 (Blk.lt l5); have FF6 := FB.below FF5 b6; have BB6 : BufAt w6 b g d (pixL Q (4 * (h.W * h.H))) := ⟨Blk.below BB5.blk b6 (Blk.lt BB5.blk), Blk.below BB5.row b6 (Blk.lt BB5.row)⟩; have T6 := T5.trans (Turn.of_below (S := [p, g, x, d]) b6); clear x0 x1 x3 x4 x6 x7 x8 x9 x10 xl f0 f1 f2' z0 z1 z2 fl d0 d1 d2 d3 dl g0 g1 g2 o0 o1 o2 gl; obtain ⟨f0, f1, f2', z0, z1, z2, fl⟩ := FB.all FF6)
            | (go_at_call 159; refine (rasSet_ways (c0 := c.r) (c1 := c.g) (c2 := c.b) (c3 := c.a) HI3.out.R HI3.out.B HI3.out.L HI3.out.yok HI3.out.yr HIW.out HYY.out HPR.out HI4.out HPB.out HH.out.w2 HH.out.h2 (by rw [pixL_len (by have := HQB.out; omega)]; exact HQB.out) (by rw [pixL_len (by have := HQB.out; omega)]; have := HN2.out; omega)).mono ?_; rintro e w5 ⟨y5, l5, ok5, b5, hor5⟩; rcases hor5 with ⟨rfl, t5, yr5, hno5⟩ | ⟨rfl, t5, B5, yr5, hyes5⟩; all_goals (try (have s5 : SrcAt w5 p g s 0 s.size t'.a := HI3.out.S.turn t5 (by simpa using Blk.ne_ HI3.out.S HI3.out.L (by decide)); have FF5 : FB w5 w.heap.size 0 0 0 := FB.turn HI3.out.F t5 (by simpa using Blk.ne_ HI3.out.F HI3.out.L (by decide)); have BB5 := HI3.out.B.turn t5 (by simpa using Blk.ne_ HI3.out.B.blk HI3.out.L (by decide)) (by simpa using Blk.ne_ HI3.out.B.row HI3.out.L (by decide)); have T5 := HI3.out.T.trans (t5.mono (S' := [p, g, x, d]) (by simp)); have XX5 : SunX w5 p x h lv fn t' := Blk.turn HI3.out.X t5 (by simpa using Blk.ne_ HI3.out.X HI3.out.L (by decide)); clear x0 x1 x3 x4 x6 x7 x8 x9 x10 xl f0 f1 f2' z0 z1 z2 fl; obtain ⟨x0, x1, x3, x4, x6, x7, x8, x9, x10, xl⟩ := SunX.all XX5; obtain ⟨f0, f1, f2', z0, z1, z2, fl⟩ := FB.all FF5))))
          · exact bodyPost_ret (v := fltV 4 t'.a) (by simp [results, Tryz.results141, go_sem, f0, f1, f2', fltV]) rfl ⟨y5, Q, Blk.st3 l6 (Blk.ne_ l6 FF6 (by decide)), ok5, b5.trans HI3.out.yb, Turn.st3 T6 (.inr (Nat.le_refl _)), ⟨Blk.st3 BB6.blk (Blk.ne_ BB6.blk FF6 (by decide)), Blk.st3 BB6.row (Blk.ne_ BB6.row FF6 (by decide))⟩, by have := HQB.out; omega, .inl ⟨4, t'.a, by decide, rfl, fun k => by rw [HRUN.out k, sunRow_succ, sunPixel_bit hbits HI0.out, sunEntry_some hse]; exact hno5 _ _ _⟩⟩
          · have B5' : BufAt w5 b g d (pixL (Q ++ [c]) (4 * (h.W * h.H))) := by rw [← pixL_next c HQB.out]; exact B5
            have HI5 := Lib.hid (HI3.out.set t5 B5' l5 ok5 yr5 b5)
            clear x0 x1 x3 x4 x6 x7 x8 x9 x10 xl f0 f1 f2' z0 z1 z2 fl d0 d1 d2 d3 dl g0 g1 g2 o0 o1 o2 gl B5 B5'
            go_roundg gm
            case measure => omega
            case rel => exact ⟨i + 1, gm, v, q, t', y5, Q ++ [c], rfl, by have := HIG.out; omega, rfl, rfl, by go_num, Lib.hid ⟨HI5.out, HV.out, HQQ.out, by rw [List.length_append, HQ.out]; rfl, fun k => by rw [HRUN.out k, sunRow_succ, sunPixel_bit hbits HI0.out, sunEntry_some hse]; exact hyes5 _ _ _⟩⟩
        · have HI2 := Lib.hid I2
          have X2 := I2.X
          have F2 := I2.F
          have l2 := I2.L
          have B2 := I2.B
          have T2 := I2.T
          clear I2
          generalize hw9 : (((((((w4.setCell ⟨qc, 0, none⟩ (.int .u8 0)).setCell ⟨qc, 1, none⟩ (.int .u8 0)).setCell ⟨qc, 2, none⟩ (.int .u8 0)).setCell ⟨qc, 3, none⟩ (.int .u8 0)).setCell ⟨qf, 0, none⟩ (.int .i64 2)).setCell ⟨qf, 1, none⟩ (.int .i64 8)).setCell ⟨qf, 2, none⟩ (.int .i64 (q : Int))) = w9
          have X9 : SunX w9 p x h lv fn t' := by rw [← hw9]; exact Blk.st3 (Blk.sv4 X2 (Blk.ne_ X2 C2 (by decide))) (Blk.ne_ X2 G2 (by decide))
          have F9 : FB w9 w.heap.size 0 0 0 := by rw [← hw9]; exact Blk.st3 (Blk.sv4 F2 (Blk.ne_ F2 C2 (by decide))) k5
          have G9 : FB w9 qf 2 8 (q : Int) := by rw [← hw9]; exact FB.st3 (Blk.sv4 G2 k2)
          have L9 : LedAt w9 g y' := by rw [← hw9]; exact Blk.st3 (Blk.sv4 l2 (Blk.ne_ l2 C2 (by decide))) (Blk.ne_ l2 G2 (by decide))
          have B9 : BufAt w9 b g d (pixL Q (4 * (h.W * h.H))) := by rw [← hw9]; exact ⟨Blk.st3 (Blk.sv4 B2.blk (Blk.ne_ B2.blk C2 (by decide))) (Blk.ne_ B2.blk G2 (by decide)), Blk.st3 (Blk.sv4 B2.row (Blk.ne_ B2.row C2 (by decide))) (Blk.ne_ B2.row G2 (by decide))⟩
          have T9 : Turn [p, g, x, d] w w9 := by rw [← hw9]; exact Turn.st3 (Turn.sv4 T2 (.inr hnc)) (.inr hnf)
          have HD := Lib.hid (And.intro L9 (And.intro B9 T9))
          clear x0 x1 x3 x4 x6 x7 x8 x9 x10 xl f0 f1 f2' z0 z1 z2 fl d0 d1 d2 d3 y0' y1 y2' y3 dl g0 g1 g2 o0 o1 o2 gl C2 F2 G2 X2 B2 T2 l2  hw9
          obtain ⟨x0, x1, x3, x4, x6, x7, x8, x9, x10, xl⟩ := SunX.all X9
          obtain ⟨f0, f1, f2', z0, z1, z2, fl⟩ := FB.all F9
          obtain ⟨g0, g1, g2, o0, o1, o2, gl⟩ := FB.all G9
          have lf := Blk.ne_ HD.out.1 F9 (by decide)
          have bf := Blk.ne_ HD.out.2.1.blk F9 (by decide)
          have df := Blk.ne_ HD.out.2.1.row F9 (by decide)
          clear X9 F9 G9 L9 B9 T9
          go_wp2_with fail
          exact bodyPost_ret (v := fltV 2 q) (by simp [results, Tryz.results141, go_sem, f0, f1, f2', fltV]) rfl ⟨y', Q, Blk.st3 HD.out.1 lf, HI2.out.yok, HI2.out.yb, Turn.st3 HD.out.2.2 (.inr (Nat.le_refl _)), ⟨Blk.st3 HD.out.2.1.blk bf, Blk.st3 HD.out.2.1.row df⟩, by have := HQB.out; omega, .inl ⟨2, q, by decide, rfl, fun k => by rw [HRUN.out k, sunRow_succ, sunPixel_bit hbits HI0.out, sunEntry_none hse]; exact rfl⟩⟩
    · have hiw : i = h.W := by omega
      have hg0 : gk = 0 := by omega
      have hiI : ¬ (i : Int) < (h.W : Int) := by omega
      subst hg0
      obtain ⟨f0, f1, f2', z0, z1, z2, fl⟩ := FB.all HI.out.F
      have HL' : Hid (Q.length = L.length + h.W) := Lib.hid (by rw [HQ.out, hiw])
      clear hi hi4 hiw
      go_wp2_with (go_at_call 194; refine (sunFillC HNN.out HH.out HI.out.S HI.out.L HI.out.X HI.out.ok HI.out.yok HI.out.yr).mono ?_; rintro e w2 ⟨y2, l2, ok2, b2, tn, hor⟩; have F2 : FB w2 w.heap.size 0 0 0 := FB.turn HI.out.F tn (by simp only [List.mem_cons, List.not_mem_nil, or_false, not_or]; exact ⟨Blk.ne_ HI.out.F HI.out.S (by decide), Blk.ne_ HI.out.F HI.out.L (by decide), Blk.ne_ HI.out.F HI.out.X (by decide)⟩); have B2 := HI.out.B.turn tn (by simp only [List.mem_cons, List.not_mem_nil, or_false, not_or]; exact ⟨Blk.ne_ HI.out.B.blk HI.out.S (by decide), Blk.ne_ HI.out.B.blk HI.out.L (by decide), Blk.ne_ HI.out.B.blk HI.out.X (by decide)⟩) (by simp only [List.mem_cons, List.not_mem_nil, or_false, not_or]; exact ⟨Blk.ne_ HI.out.B.row HI.out.S (by decide), Blk.ne_ HI.out.B.row HI.out.L (by decide), Blk.ne_ HI.out.B.row HI.out.X (by decide)⟩); have T2 := HI.out.T.trans (tn.mono (S' := [p, g, x, d]) (by simp)); clear f0 f1 f2' z0 z1 z2 fl x0 x1 x3 x4 x6 x7 x8 x9 x10 xl; obtain ⟨f0, f1, f2', z0, z1, z2, fl⟩ := FB.all F2; simp only [fltV, flt0] at hor; rcases hor with ⟨kk, aa, hk, rfl, hno⟩ | ⟨t2, rfl, t2ok, yr2, s2, X2, hyes⟩)
      · exact bodyPost_ret (v := fltV kk aa) (by simp [results, Tryz.results141, go_sem, f0, f1, f2', fltV]) rfl ⟨y2, Q, Blk.st3 l2 (Blk.ne_ l2 F2 (by decide)), ok2, b2.trans HI.out.yb, Turn.st3 T2 (.inr (Nat.le_refl _)), ⟨Blk.st3 B2.blk (Blk.ne_ B2.blk F2 (by decide)), Blk.st3 B2.row (Blk.ne_ B2.row F2 (by decide))⟩, sunRow_len HYY.out HL'.out HLL.out, .inl ⟨kk, aa, hk, rfl, fun k => by rw [HRUN.out k]; exact hno _⟩⟩
      · exact bodyPost_ret (v := flt0) (by simp [results, Tryz.results141, go_sem, f0, f1, f2', flt0]) rfl ⟨y2, Q, Blk.st3 l2 (Blk.ne_ l2 F2 (by decide)), ok2, b2.trans HI.out.yb, Turn.st3 T2 (.inr (Nat.le_refl _)), ⟨Blk.st3 B2.blk (Blk.ne_ B2.blk F2 (by decide)), Blk.st3 B2.row (Blk.ne_ B2.row F2 (by decide))⟩, sunRow_len HYY.out HL'.out HLL.out, .inr ⟨t2, rfl, t2ok, yr2, Blk.st3 s2 (Blk.ne_ s2 F2 (by decide)), Blk.st3 X2 (Blk.ne_ X2 F2 (by decide)), HL'.out, fun k => by rw [HRUN.out k]; exact hyes _⟩⟩
end Go.Proofs.YtccldalagbfmhaaGreat
