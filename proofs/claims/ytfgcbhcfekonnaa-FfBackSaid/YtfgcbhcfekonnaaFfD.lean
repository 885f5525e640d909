/- farbfeld: the pixels. -/
import Derived.Test.YtfgcbhcfekonnaaFfA
import Derived.Test.YtfgcbhcfekonnaaRas
namespace Go.Proofs.Ytfgcbhcfekonnaa
open Go.RowKit
set_option linter.unusedVariables false
set_option linter.unusedSimpArgs false

theorem over_next {a b : List UInt8} {z : Nat} (ha : a.length = z) (q : List UInt8) (hb : q.length ≤ b.length) : over (a ++ b) z q = a ++ q ++ b.drop q.length := by
  subst ha
  unfold over
  rw [List.take_left, ← List.drop_drop, List.drop_left]
/-- a raster whose first k pixels are told -/
def ffL (s : ByteArray) (z k : Nat) : List UInt8 := ffBytes s k ++ List.replicate (z - 4 * k) 0
theorem ffL_len {s : ByteArray} {z k : Nat} (h : 4 * k ≤ z) : (ffL s z k).length = z := by
  unfold ffL
  rw [List.length_append, ffBytes_len, List.length_replicate]
  omega
theorem ffL_next {s : ByteArray} {z k : Nat} (h : 4 * (k + 1) ≤ z) : over (ffL s z k) (4 * k) (ffQ s k) = ffL s z (k + 1) := by
  have e4 : (ffQ s k).length = 4 := rfl
  unfold ffL
  rw [over_next (ffBytes_len s k) _ (by rw [e4, List.length_replicate]; omega), ffBytes, List.drop_replicate, e4]
  congr 2
theorem ffU_int (s : ByteArray) (i : Nat) : ((ffU s i).toNat : Int) = sround (beN s i 2 : Int) 65535 := by
  have hb := beN_lt s i 2
  have hr := sround_range (v := (beN s i 2 : Int)) (m := 65535) (by omega) (by omega) (by omega)
  unfold ffU
  rw [ofNat8 (by omega)]
  omega
theorem ffSample_at {w : World} {s : ByteArray} {a i c q : Nat} {u : UInt8} {av : List Nat} (hs : a + 8 ≤ s.size) (hi : i ≤ 3) (hu : ffU s (a + 2 * i) = u) (h0 : w.cell? ⟨c, 0, none⟩ = some (.pointer (some ⟨q, 0, none⟩))) (hc : SclA w q 65535 av) (hav : ∀ i ∈ av, i < w.heap.size) :
    Calls Try.prog 93 #[.string (s.extract a (a + 8)), .int .i64 (i : Int), .pointer (some ⟨c, 0, none⟩)] w fun e w' => e = .returned (.int .u8 (u.toNat : Int)) ∧ SclA w' q 65535 av ∧ Turn [q] w w' := by
  have h := ffSampleC hs hi rfl h0 hc hav
  rw [← ffU_int, hu] at h
  exact h
/-- what holds in the pixels' loop -/
structure FfP (w0 w : World) (p g r b d q c f k a : Nat) (W H z : Nat) (s : ByteArray) (x : Led) : Prop where
  S : SrcAt w p g s 0 s.size a
  L : LedAt w g x
  R : RasAt w r g b (W : Int) (H : Int) true
  B : BufAt w b g d (ffL s z k)
  C : SclA w q 65535 [d]
  Q : Blk w c 153 #[.pointer (some ⟨q, 0, none⟩)]
  F : FB w f 0 0 0
  T : Turn [p, g, d] w0 w
  nq : w0.heap.size ≤ q
  nc : w0.heap.size ≤ c
  nf : w0.heap.size ≤ f
section
variable {w0 w w' : World} {p g r b d q c f k a a' : Nat} {W H z : Nat} {s : ByteArray} {x y : Led}
theorem FfP.blk (P : FfP w0 w p g r b d q c f k a W H z s x) : ∃ cs, Blk w q 175 cs := P.C.elim (fun h => ⟨_, h⟩) fun ⟨_, _, h⟩ => ⟨_, h.blk⟩
theorem FfP.take (P : FfP w0 w p g r b d q c f k a W H z s x) (t : Turn [p, g] w w') (s' : SrcAt w' p g s 0 s.size a') (l' : LedAt w' g y) : FfP w0 w' p g r b d q c f k a' W H z s y := by
  obtain ⟨cs, hq⟩ := P.blk
  obtain ⟨S, L, R, B, C, Q, F, T, nq, nc, nf⟩ := P
  refine ⟨s', l', Blk.turn R t ?_, B.turn t ?_ ?_, C.turn t ?_ ?_, Blk.turn Q t ?_, F.turn t ?_, T.trans (t.mono (by simp)), nq, nc, nf⟩
  all_goals simp only [List.mem_cons, List.not_mem_nil, or_false, not_or]
  · exact ⟨Blk.ne_ R S (by decide), Blk.ne_ R L (by decide)⟩
  · exact ⟨Blk.ne_ B.blk S (by decide), Blk.ne_ B.blk L (by decide)⟩
  · exact ⟨Blk.ne_ B.row S (by decide), Blk.ne_ B.row L (by decide)⟩
  · exact ⟨Blk.ne_ hq S (by decide), Blk.ne_ hq L (by decide)⟩
  · rintro i (rfl | rfl)
    · exact .inr ⟨_, _, S, by decide⟩
    · exact .inr ⟨_, _, L, by decide⟩
  · exact ⟨Blk.ne_ Q S (by decide), Blk.ne_ Q L (by decide)⟩
  · exact ⟨Blk.ne_ F S (by decide), Blk.ne_ F L (by decide)⟩
theorem FfP.smp (P : FfP w0 w p g r b d q c f k a W H z s x) (t : Turn [q] w w') (c' : SclA w' q 65535 [d]) : FfP w0 w' p g r b d q c f k a W H z s x := by
  obtain ⟨cs, hq⟩ := P.blk
  obtain ⟨S, L, R, B, C, Q, F, T, nq, nc, nf⟩ := P
  exact ⟨S.turn t (by simpa using Blk.ne_ S hq (by decide)), L.turn t (by simpa using Blk.ne_ L hq (by decide)), Blk.turn R t (by simpa using Blk.ne_ R hq (by decide)), B.turn t (by simpa using Blk.ne_ B.blk hq (by decide)) (by simpa using Blk.ne_ B.row hq (by decide)), c', Blk.turn Q t (by simpa using Blk.ne_ Q hq (by decide)), F.turn t (by simpa using Blk.ne_ F hq (by decide)), T.next t (by simp; exact .inr nq), nq, nc, nf⟩
theorem FfP.set (P : FfP w0 w p g r b d q c f k a W H z s x) (t : Turn [g, d] w w') (b' : BufAt w' b g d (ffL s z (k + 1))) (l' : LedAt w' g y) : FfP w0 w' p g r b d q c f (k + 1) a W H z s y := by
  obtain ⟨cs, hq⟩ := P.blk
  obtain ⟨S, L, R, B, C, Q, F, T, nq, nc, nf⟩ := P
  refine ⟨S.turn t ?_, l', Blk.turn R t ?_, b', C.turn t ?_ ?_, Blk.turn Q t ?_, F.turn t ?_, T.trans (t.mono (by simp)), nq, nc, nf⟩
  all_goals simp only [List.mem_cons, List.not_mem_nil, or_false, not_or]
  · exact ⟨Blk.ne_ S L (by decide), Blk.ne_ S B.row (by decide)⟩
  · exact ⟨Blk.ne_ R L (by decide), Blk.ne_ R B.row (by decide)⟩
  · exact ⟨Blk.ne_ hq L (by decide), Blk.ne_ hq B.row (by decide)⟩
  · rintro i (rfl | rfl)
    · exact .inr ⟨_, _, L, by decide⟩
    · exact .inl rfl
  · exact ⟨Blk.ne_ Q L (by decide), Blk.ne_ Q B.row (by decide)⟩
  · exact ⟨Blk.ne_ F L (by decide), Blk.ne_ F B.row (by decide)⟩
theorem FfP.led (P : FfP w0 w p g r b d q c f k a W H z s x) (t : Turn [g] w w') (l' : LedAt w' g y) : FfP w0 w' p g r b d q c f k a W H z s y :=
  P.take (t.mono (by simp)) (P.S.turn t (by simpa using Blk.ne_ P.S P.L (by decide))) l'
theorem FfP.below (P : FfP w0 w p g r b d q c f k a W H z s x) (t : Below w.heap.size w w') : FfP w0 w' p g r b d q c f k a W H z s x :=
  P.take (Turn.of_below t) (Blk.below P.S t (Blk.lt P.S)) (Blk.below P.L t (Blk.lt P.L))
end
/-- what the pixels' reading leaves -/
structure FfE (w0 w : World) (p g r b d W H z : Nat) (l : List UInt8) (y : Led) : Prop where
  L : LedAt w g y
  R : RasAt w r g b (W : Int) (H : Int) true
  B : BufAt w b g d l
  len : l.length = z
  ok : y.Ok
  y1 : (z : Int) ≤ y.bytes
  T : Turn [p, g, d] w0 w
theorem FfP.fin {w0 w : World} {p g r b d q c f k a W H z : Nat} {s : ByteArray} {x : Led} {u v e : Value} (P : FfP w0 w p g r b d q c f k a W H z s x) (hk : 4 * k ≤ z) (ok : x.Ok) (hb : (z : Int) ≤ x.bytes) : FfE w0 (st3 w f u v e) p g r b d W H z (ffL s z k) x :=
  ⟨Blk.st3 P.L (Blk.ne_ P.L P.F (by decide)), Blk.st3 P.R (Blk.ne_ P.R P.F (by decide)), ⟨Blk.st3 P.B.blk (Blk.ne_ P.B.blk P.F (by decide)), Blk.st3 P.B.row (Blk.ne_ P.B.row P.F (by decide))⟩, ffL_len hk, ok, hb, Turn.st3 P.T (.inr P.nf)⟩
/-- at a pixel: what is still to be read tells D -/
def FfI (w0 w : World) (p g r b d q c f W H N z : Nat) (s : ByteArray) (D : Led × DRes) (k : Nat) : Prop :=
  ∃ (a : Nat) (x : Led), 16 + 8 * k = a ∧ a ≤ s.size ∧ FfP w0 w p g r b d q c f k a W H z s x ∧ x.Ok ∧ x.reason = 0 ∧ (z : Int) ≤ x.bytes ∧ (ffPix s W H z (N - k) k).run x = D
theorem ffPix_spent {s : ByteArray} {W H z n k : Nat} {x y : Led} (e : x.work 1 = (y, false)) : (ffPix s W H z (n + 1) k).run x = ((y.give (z : Int)).1, .bad 4 (16 + 8 * k)) := by
  unfold ffPix Dec.run
  rw [e]
  simp
theorem ffPix_short {s : ByteArray} {W H z n k : Nat} {x y : Led} (e : x.work 1 = (y, true)) (h : ¬ 16 + 8 * k + 8 ≤ s.size) : (ffPix s W H z (n + 1) k).run x = ((y.give (z : Int)).1, .bad 1 s.size) := by
  unfold ffPix Dec.run
  rw [e, if_neg h]
  simp [Dec.run]
theorem ffPix_spent2 {s : ByteArray} {W H z n k : Nat} {x y y2 : Led} (e : x.work 1 = (y, true)) (h : 16 + 8 * k + 8 ≤ s.size) (e2 : y.work 1 = (y2, false)) : (ffPix s W H z (n + 1) k).run x = ((y2.give (z : Int)).1, .bad 4 (16 + 8 * k + 8)) := by
  unfold ffPix Dec.run
  rw [e, if_pos h]
  simp [Dec.run, e2]
theorem ffPix_next {s : ByteArray} {W H z n k : Nat} {x y y2 : Led} (e : x.work 1 = (y, true)) (h : 16 + 8 * k + 8 ≤ s.size) (e2 : y.work 1 = (y2, true)) : (ffPix s W H z (n + 1) k).run x = (ffPix s W H z n (k + 1)).run y2 := by
  rw [ffPix, Dec.run, e, if_pos h]
  simp [Dec.run, e2]
set_option maxRecDepth 100000 in
set_option maxHeartbeats 4000000 in
theorem ffPixels {w : World} {p g r b d W H N z : Nat} {s : ByteArray} {x0 : Led} (S0 : SrcAt w p g s 0 s.size 16) (hsm : s.size ≤ 1099511627776) (hs16 : 16 ≤ s.size) (L0 : LedAt w g x0) (ok0 : x0.Ok) (hx0 : x0.reason = 0) (R0 : RasAt w r g b (W : Int) (H : Int) true) (B0 : BufAt w b g d (List.replicate z 0)) (hz0 : (z : Int) ≤ x0.bytes)
    (hN : W * H = N) (hz : 4 * N = z) (hW : 1 ≤ W ∧ W ≤ 16384) (hH : 1 ≤ H ∧ H ≤ 16384) :
    Calls Try.prog 67 #[.pointer (some ⟨p, 0, none⟩), .pointer (some ⟨r, 0, none⟩)] w fun e w' => ∃ y l, FfE w w' p g r b d W H z l y ∧
      ((e = .returned (.agg #[.int .i64 0, .int .i64 0, .int .i64 0]) ∧ (ffPix s W H z N 0).run x0 = (y, .img W H l)) ∨ ∃ k a : Nat, k ≠ 0 ∧ e = .returned (.agg #[.int .i64 (k : Int), .int .i64 6, .int .i64 (a : Int)]) ∧ (ffPix s W H z N 0).run x0 = ((y.give (z : Int)).1, .bad k a)) := by
  obtain ⟨D, hD⟩ : ∃ D, (ffPix s W H z N 0).run x0 = D := ⟨_, rfl⟩
  rw [hD]
  have hp := Blk.lt S0
  have hg := Blk.lt L0
  have hr := Blk.lt R0
  have hd := Blk.lt B0.row
  have hb := Blk.lt B0.blk
  have hN1 : N ≤ 16384 * 16384 := by rw [← hN]; exact Nat.mul_le_mul hW.2 hH.2
  have HD := Lib.hid hD
  have S1 := Lib.hid S0
  have L1 := Lib.hid L0
  have R1 := Lib.hid R0
  have B1 := Lib.hid B0
  have K0 := Lib.hid (And.intro ok0 (And.intro hx0 hz0))
  have HN := Lib.hid hN
  have HZ := Lib.hid hz
  have HW := Lib.hid hW
  have HH := Lib.hid hH
  clear S0 L0 R0 B0 ok0 hx0 hz0 hD hN hz hW hH
  go_enter Try.func67, Try.ntmps67
  go_wp2_with (first
    | (go_at_call 92; refine (sclNew_open 65535 _ (by decide) (by decide)).mono ?_; rintro e w1 ⟨q, rfl, hqn, hqS, hqB⟩))
  have P0 : FfP w (w1.alloc (.cells #[.pointer (some ⟨q, 0, none⟩)] 153)) p g r b d q w1.heap.size w.heap.size 0 16 W H z s x0 := by
    have hs1 : w.heap.size + 1 ≤ w1.heap.size := by have := hqB.size; simp at this; exact this
    have hqn' : w.heap.size + 1 ≤ q := by simpa using hqn
    have hbb : Below w.heap.size w w1 := below_box hqB
    have eB : ffL s z 0 = List.replicate z 0 := by unfold ffL ffBytes; simp
    refine ⟨Blk.alloc (Blk.below S1.out hbb hp) _, Blk.alloc (Blk.below L1.out hbb hg) _, Blk.alloc (Blk.below R1.out hbb hr) _, ?_, ?_, Blk.new _ _ _, ?_, (Turn.of_below hbb).alloc _, by omega, by omega, Nat.le_refl _⟩
    · rw [eB]
      exact ⟨Blk.alloc (Blk.below B1.out.blk hbb hb) _, Blk.alloc (Blk.below B1.out.row hbb hd) _⟩
    · exact .inl (Blk.alloc hqS _)
    · exact Blk.alloc (Blk.below (FB.new w) hqB (by simp)) _
  generalize w1.alloc (.cells #[.pointer (some ⟨q, 0, none⟩)] 153) = w2 at P0 ⊢
  generalize w1.heap.size = c at P0 ⊢
  generalize hf : w.heap.size = f at P0 ⊢
  clear hqn hqS hqB hf
  have P1 := Lib.hid P0
  clear P0 S1 L1 R1 B1
  refine (rasHeight_at P1.out.R).mono ?_
  rintro e w3 ⟨rfl, rfl⟩
  go_wp2_with fail
  have I1 : FfI w w2 p g r b d q c f W H N z s D 0 := ⟨16, x0, rfl, hs16, P1.out, K0.out.1, K0.out.2.1, K0.out.2.2, HD.out⟩
  have J1 := Lib.hid I1
  clear P1 K0 HD I1 hp hg hr hd hb
  go_loopg [19] H (fun gh iv wr => ∃ Y : Nat, iv = .int .i64 (Y : Int) ∧ Y + gh = H ∧ Hid (FfI w wr p g r b d q c f W H N z s D (Y * W)))
  case atStart => exact ⟨0, rfl, by omega, by rw [Nat.zero_mul]; exact J1⟩
  case round =>
    obtain ⟨Y, rfl, hY, hI⟩ := hrel
    have hYb : (Y : Int) ≤ 16384 := by have := HH.out; omega
    by_cases hlt : Y < H
    · have hltI : (Y : Int) < (H : Int) := by omega
      have HR : Hid (RasAt wr r g b (W : Int) (H : Int) true) := Lib.hid (by obtain ⟨a, x, h1, h2, h3, h4⟩ := hI.out; exact h3.R)
      go_wp2_with (go_at_call 10; refine (rasWidth_at HR.out).mono ?_; rintro e w3 ⟨rfl, rfl⟩)
      go_loopg [24] W (fun gh iv wr => ∃ X : Nat, iv = .int .i64 (X : Int) ∧ X + gh = W ∧ Hid (FfI w wr p g r b d q c f W H N z s D (Y * W + X)))
      case atStart => exact ⟨0, rfl, by omega, hI⟩
      case round =>
        obtain ⟨X, rfl, hX, hJ⟩ := hrel
        have hXb : (X : Int) ≤ 16384 := by have := HW.out; omega
        clear HR hI J1
        by_cases hlx : X < W
        · have hlxI : (X : Int) < (W : Int) := by omega
          obtain ⟨k, hk⟩ : ∃ k, Y * W + X = k := ⟨_, rfl⟩
          rw [hk] at hJ
          have hkN : k < N := by
            have h1 := Nat.mul_le_mul_right W hlt
            rw [Nat.succ_mul] at h1
            rw [← HN.out, Nat.mul_comm W H]
            omega
          obtain ⟨n, hn⟩ : ∃ n, N - k = n + 1 := ⟨N - k - 1, by omega⟩
          obtain ⟨a, x, ha, has, P, ok, hx, hb, hrun⟩ := hJ.out
          rw [hn] at hrun
          have PH := Lib.hid P
          have HOK := Lib.hid ok
          have HX := Lib.hid hx
          have HB := Lib.hid hb
          have HA := Lib.hid ha
          have HK := Lib.hid hk
          have fnf := P.nf
          have hkz : 4 * k + 4 ≤ z := by have := HZ.out; omega
          obtain ⟨y, v, hw⟩ : ∃ y v, x.work 1 = (y, v) := ⟨_, _, rfl⟩
          have yok : y.Ok := by have := ok.work 1; rw [hw] at this; exact this
          have HYK := Lib.hid yok
          have HWK := Lib.hid hw
          cases v with
          | false =>
            have hrun' := (ffPix_spent hw).symm.trans hrun
            have yno := led_work_no (x := x) (n := 1) (by rw [hw]) hx
            rw [hw] at yno
            have yno' : y = x.refused 3 1 := yno
            have yr : y.reason ≠ 0 := by rw [yno']; simp [Led.refused]
            have yb : (z : Int) ≤ y.bytes := by rw [yno']; exact hb
            have HYR := Lib.hid yr
            have HYB := Lib.hid yb
            have HRUN := Lib.hid hrun'
            clear hrun hrun' yno yno' yr yb P ok hx hb ha hk hw yok hJ
            go_wp2_with (first
              | (go_at_call 89; refine (take_spent 8 PH.out.S PH.out.L HOK.out HWK.out).mono ?_; rintro e w3 ⟨rfl, s3, l3, t3⟩; have P3 := PH.out.take t3 s3 l3)
              | (go_at_call 66; refine (srcFault_spent 6 P3.S P3.L HYR.out).mono ?_; rintro e w4 ⟨rfl, b4⟩; have P4 := P3.below b4; obtain ⟨c0, c1, c2, z0, z1, z2, fl⟩ := FB.all P4.F))
            exact bodyPost_ret (v := .agg #[.int .i64 4, .int .i64 6, .int .i64 (a : Int)]) (by simp [results, Try.results67, go_sem, c0, c1, c2]) rfl ⟨_, _, P4.fin (by omega) HYK.out HYB.out, .inr ⟨4, a, by decide, rfl, by rw [← HRUN.out, HA.out]⟩⟩
          | true =>
            obtain ⟨hx', yr, yb', _⟩ := led_work_yes (x := x) (n := 1) (by rw [hw])
            rw [hw] at yr yb'
            have yr0 : y.reason = 0 := yr
            have yb : (z : Int) ≤ y.bytes := by rw [show y.bytes = x.bytes from yb']; exact hb
            have HYB := Lib.hid yb
            have HY0 := Lib.hid yr0
            by_cases hsz : 16 + 8 * k + 8 ≤ s.size
            · obtain ⟨a8, ha8⟩ : ∃ a8, a + 8 = a8 := ⟨_, rfl⟩
              have HA8 := Lib.hid ha8
              have HO : Hid (SrcOk s 0 s.size a) := Lib.hid ⟨Nat.zero_le _, has, Nat.le_refl _, hsm⟩
              have hs8 : a + 8 ≤ s.size := by omega
              obtain ⟨u0, hu0⟩ : ∃ u, ffU s (a + 2 * 0) = u := ⟨_, rfl⟩
              obtain ⟨u1, hu1⟩ : ∃ u, ffU s (a + 2 * 1) = u := ⟨_, rfl⟩
              obtain ⟨u2, hu2⟩ : ∃ u, ffU s (a + 2 * 2) = u := ⟨_, rfl⟩
              obtain ⟨u3, hu3⟩ : ∃ u, ffU s (a + 2 * 3) = u := ⟨_, rfl⟩
              have eq4 : ffQ s k = [u0, u1, u2, u3] := by rw [← hu0, ← hu1, ← hu2, ← hu3, ← ha]; rfl
              have EQ := Lib.hid eq4
              have HU0 := Lib.hid hu0
              have HU1 := Lib.hid hu1
              have HU2 := Lib.hid hu2
              have HU3 := Lib.hid hu3
              obtain ⟨pr, hpr⟩ : ∃ pr, Y * W = pr := ⟨_, rfl⟩
              have HPR := Lib.hid hpr
              have HI4 : Hid (4 * (pr + X) = 4 * k) := Lib.hid (by rw [← hpr, hk])
              have hprb : pr ≤ 1073741824 := by rw [hpr] at hk; omega
              have HL4 : Hid (4 * k + 4 ≤ (ffL s z k).length) := Lib.hid (by rw [ffL_len (by omega)]; exact hkz)
              have HLS : Hid ((ffL s z k).length ≤ 1099511627776) := Lib.hid (by rw [ffL_len (by omega), ← HZ.out]; omega)
              obtain ⟨y2, v2, hw2⟩ : ∃ y2 v2, y.work 1 = (y2, v2) := ⟨_, _, rfl⟩
              have y2ok : y2.Ok := by have := yok.work 1; rw [hw2] at this; exact this
              have HYK2 := Lib.hid y2ok
              have HW2 := Lib.hid hw2
              have HSZ := Lib.hid hsz
              have HAS := Lib.hid (show a8 ≤ s.size by omega)
              have HA9 := Lib.hid (show 16 + 8 * (k + 1) = a8 by omega)
              have HAB := Lib.hid (show 16 + 8 * k + 8 = a8 by omega)
              have HNK := Lib.hid (show N - (k + 1) = n by omega)
              cases v2 with
              | false =>
                have hrun' := (ffPix_spent2 hw hsz hw2).symm.trans hrun
                have yno := led_work_no (x := y) (n := 1) (by rw [hw2]) yr0
                rw [hw2] at yno
                have yno' : y2 = y.refused 3 1 := yno
                have y2r : y2.reason ≠ 0 := by rw [yno']; simp [Led.refused]
                have y2b : (z : Int) ≤ y2.bytes := by rw [yno']; exact yb
                have HYR := Lib.hid y2r
                have HYB2 := Lib.hid y2b
                have HRUN := Lib.hid hrun'
                clear hrun hrun' yno yno' y2r y2b yr yb' yr0 yb P ok hx hb ha hk hw yok hJ hx' hw2 y2ok hu0 hu1 hu2 hu3 eq4 hpr hsz ha8 HN HZ
                go_wp2_with (first
                  | (go_at_call 66; refine (srcFault_spent 6 P8.S P8.L HYR.out).mono ?_; rintro e w9 ⟨rfl, b9⟩; have P9 := P8.below b9; obtain ⟨c0, c1, c2, z0, z1, z2, fl⟩ := FB.all P9.F)
                  | (go_at_call 42; refine (rasSet_spent P7.R P7.B P7.L HYK.out HW2.out hlx hlt HPR.out HI4.out hprb HW.out.2 HH.out.2 HL4.out HLS.out).mono ?_; rintro e w8 ⟨rfl, l8, t8⟩; have P8 := P7.led t8 l8)
                  | (go_at_call 93; refine (ffSample_at (i := 3) hs8 (by decide) HU3.out (Blk.cell P6.Q 0) P6.C (by simp; exact Blk.lt P6.B.row)).mono ?_; rintro e w7 ⟨rfl, k7, t7⟩; have P7 := P6.smp t7 k7)
                  | (go_at_call 93; refine (ffSample_at (i := 2) hs8 (by decide) HU2.out (Blk.cell P5.Q 0) P5.C (by simp; exact Blk.lt P5.B.row)).mono ?_; rintro e w6 ⟨rfl, k6, t6⟩; have P6 := P5.smp t6 k6)
                  | (go_at_call 93; refine (ffSample_at (i := 1) hs8 (by decide) HU1.out (Blk.cell P4.Q 0) P4.C (by simp; exact Blk.lt P4.B.row)).mono ?_; rintro e w5 ⟨rfl, k5, t5⟩; have P5 := P4.smp t5 k5)
                  | (go_at_call 93; refine (ffSample_at (i := 0) hs8 (by decide) HU0.out (Blk.cell P3.Q 0) P3.C (by simp; exact Blk.lt P3.B.row)).mono ?_; rintro e w4 ⟨rfl, k4, t4⟩; have P4 := P3.smp t4 k4)
                  | (go_at_call 89; refine (take_yes 8 PH.out.S HO.out PH.out.L HOK.out HWK.out hs8).mono ?_; rintro e w3 ⟨rfl, s3, l3, t3⟩; have s3' : SrcAt w3 p g s 0 s.size a8 := by rw [← HA8.out]; exact s3
                     have P3 := PH.out.take t3 s3' l3))
                exact bodyPost_ret (v := .agg #[.int .i64 4, .int .i64 6, .int .i64 (a8 : Int)]) (by simp [results, Try.results67, go_sem, c0, c1, c2]) rfl ⟨_, _, P9.fin (by omega) HYK2.out HYB2.out, .inr ⟨4, a8, by decide, rfl, by rw [← HRUN.out, HAB.out]⟩⟩
              | true =>
                have hrun' := (ffPix_next hw hsz hw2).symm.trans hrun
                obtain ⟨_, y2r, y2b', _⟩ := led_work_yes (x := y) (n := 1) (by rw [hw2])
                rw [hw2] at y2r y2b'
                have HYR : Hid (y2.reason = 0) := Lib.hid y2r
                have HYB2 : Hid ((z : Int) ≤ y2.bytes) := Lib.hid (by rw [show y2.bytes = y.bytes from y2b']; exact yb)
                have HRUN := Lib.hid hrun'
                clear hrun hrun' y2r y2b' yr yb' yr0 yb P ok hx hb ha hk hw yok hJ hx' hw2 y2ok hu0 hu1 hu2 hu3 eq4 hpr hsz ha8 HN HZ
                go_wp2_with (first
                  | (go_at_call 42; refine (rasSet_yes (c0 := u0) (c1 := u1) (c2 := u2) (c3 := u3) P7.R P7.B P7.L HYK.out HW2.out hlx hlt HPR.out HI4.out hprb HW.out.2 HH.out.2 HL4.out HLS.out).mono ?_; rintro e w8 ⟨rfl, b8, l8, t8⟩
                     have b8' : BufAt w8 b g d (ffL s z (k + 1)) := by rw [← ffL_next (by omega), EQ.out]; exact b8
                     have P8 := P7.set t8 b8' l8)
                  | (go_at_call 93; refine (ffSample_at (i := 3) hs8 (by decide) HU3.out (Blk.cell P6.Q 0) P6.C (by simp; exact Blk.lt P6.B.row)).mono ?_; rintro e w7 ⟨rfl, k7, t7⟩; have P7 := P6.smp t7 k7)
                  | (go_at_call 93; refine (ffSample_at (i := 2) hs8 (by decide) HU2.out (Blk.cell P5.Q 0) P5.C (by simp; exact Blk.lt P5.B.row)).mono ?_; rintro e w6 ⟨rfl, k6, t6⟩; have P6 := P5.smp t6 k6)
                  | (go_at_call 93; refine (ffSample_at (i := 1) hs8 (by decide) HU1.out (Blk.cell P4.Q 0) P4.C (by simp; exact Blk.lt P4.B.row)).mono ?_; rintro e w5 ⟨rfl, k5, t5⟩; have P5 := P4.smp t5 k5)
                  | (go_at_call 93; refine (ffSample_at (i := 0) hs8 (by decide) HU0.out (Blk.cell P3.Q 0) P3.C (by simp; exact Blk.lt P3.B.row)).mono ?_; rintro e w4 ⟨rfl, k4, t4⟩; have P4 := P3.smp t4 k4)
                  | (go_at_call 89; refine (take_yes 8 PH.out.S HO.out PH.out.L HOK.out HWK.out hs8).mono ?_; rintro e w3 ⟨rfl, s3, l3, t3⟩; have s3' : SrcAt w3 p g s 0 s.size a8 := by rw [← HA8.out]; exact s3
                     have P3 := PH.out.take t3 s3' l3))
                go_roundg (W - (X + 1))
                case measure => omega
                case rel =>
                  refine ⟨X + 1, by go_num, by omega, Lib.hid ?_⟩
                  rw [← Nat.add_assoc, HPR.out, show pr + X + 1 = k + 1 by have := HI4.out; omega]
                  exact ⟨a8, y2, HA9.out, HAS.out, P8, HYK2.out, HYR.out, HYB2.out, by rw [HNK.out]; exact HRUN.out⟩
            · have hrun' := (ffPix_short hw hsz).symm.trans hrun
              have HRUN := Lib.hid hrun'
              have HO : Hid (SrcOk s 0 s.size a) := Lib.hid ⟨Nat.zero_le _, has, Nat.le_refl _, hsm⟩
              have hsh : (s.size : Int) - (a : Int) < 8 := by omega
              clear hrun hrun' yr yb' yr0 yb P ok hx hb ha hk hw yok hJ hx'
              go_wp2_with (first
                | (go_at_call 89; refine (take_short 8 PH.out.S HO.out PH.out.L HOK.out HWK.out (.inr hsh)).mono ?_; rintro e w3 ⟨rfl, s3, l3, t3⟩; have P3 := PH.out.take t3 s3 l3)
                | (go_at_call 66; refine (srcFault_short 6 P3.S P3.L HY0.out).mono ?_; rintro e w4 ⟨rfl, b4⟩; have P4 := P3.below b4; obtain ⟨c0, c1, c2, z0, z1, z2, fl⟩ := FB.all P4.F))
              exact bodyPost_ret (v := .agg #[.int .i64 1, .int .i64 6, .int .i64 (s.size : Int)]) (by simp [results, Try.results67, go_sem, c0, c1, c2]) rfl ⟨_, _, P4.fin (by omega) HYK.out HYB.out, .inr ⟨1, s.size, by decide, rfl, HRUN.out.symm⟩⟩
        · obtain rfl : X = W := by omega
          have hlxI : ¬ (X : Int) < (X : Int) := by omega
          go_wp2_with fail
          go_roundg (H - (Y + 1))
          case measure => omega
          case rel => exact ⟨Y + 1, by go_num, by omega, by rw [Nat.succ_mul]; exact hJ⟩
    · obtain rfl : Y = H := by omega
      have hltI : ¬ (Y : Int) < (Y : Int) := by omega
      have eN : Y * W = N := by rw [← HN.out, Nat.mul_comm]
      rw [eN] at hI
      obtain ⟨a, x, ha, has, P, ok, hx, hb, hrun⟩ := hI.out
      rw [Nat.sub_self] at hrun
      have hrun' : (x, DRes.img W Y (ffBytes s N)) = D := hrun
      have el : ffL s z N = ffBytes s N := by unfold ffL; rw [HZ.out, Nat.sub_self]; simp
      have P4 := P
      have hz4 := HZ.out
      have HRUN := Lib.hid hrun'
      have HOK := Lib.hid ok
      have HB := Lib.hid hb
      obtain ⟨c0, c1, c2, z0, z1, z2, fl⟩ := FB.all P4.F
      clear hrun hrun' ha has P ok hx hb
      go_wp2_with fail
      exact bodyPost_ret (v := .agg #[.int .i64 0, .int .i64 0, .int .i64 0]) (by simp [results, Try.results67, go_sem, c0, c1, c2]) rfl ⟨_, _, P4.fin (by omega) HOK.out HB.out, .inl ⟨rfl, by rw [el]; exact HRUN.out.symm⟩⟩
end Go.Proofs.Ytfgcbhcfekonnaa
