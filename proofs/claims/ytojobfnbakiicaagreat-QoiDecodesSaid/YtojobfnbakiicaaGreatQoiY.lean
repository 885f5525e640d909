/- qoi: the end of a file; the pixels. qoi: the pixels. -/
import Derived.Test.YtojobfnbakiicaaGreatQoiP
import Derived.Test.YtojobfnbakiicaaGreatWays
import Derived.Test.YtojobfnbakiicaaGreatQoiLaw
namespace Go.Proofs.YtojobfnbakiicaaGreat
open Go.RowKit
set_option linter.unusedVariables false
set_option linter.unusedSimpArgs false

theorem qoiBadC (k a : Int) (w : World) : Calls Tryz.prog 120 #[.int .i64 k, .int .i64 a] w fun e w' => e = .returned (.agg #[.int .i64 k, .int .i64 5, .int .i64 a]) ∧ Below w.heap.size w w' := by
  go_enter Tryz.func120, Tryz.ntmps120
  go_wp2_with fail
  exact bodyPost_ret (v := .agg #[.int .i64 k, .int .i64 5, .int .i64 a]) (by simp [results, Tryz.results120, go_sem]) rfl ⟨rfl, (Below.refl _ _).alloc (Nat.le_refl _) _⟩
/-- what holds at the end's bytes -/
structure QtI (w0 w : World) (p g f a : Nat) (s : ByteArray) (x0 x : Led) : Prop where
  S : SrcAt w p g s 0 s.size a
  L : LedAt w g x
  F : FB w f 0 0 0
  T : Turn [p, g] w0 w
  nf : w0.heap.size ≤ f
  ok : x.Ok
  r : x.reason = 0
  b : x.bytes = x0.bytes
  o : a ≤ s.size
/-- what the end leaves -/
def QtPost (w w' : World) (p g z : Nat) (D : Led × DRes) (W H : Nat) (l : List UInt8) (x0 : Led) (e : Ending) : Prop :=
  ∃ y, LedAt w' g y ∧ y.Ok ∧ y.bytes = x0.bytes ∧ Turn [p, g] w w' ∧ ((e = .returned (.agg #[.int .i64 0, .int .i64 0, .int .i64 0]) ∧ D = (y, .img W H l)) ∨ ∃ k a : Nat, k ≠ 0 ∧ e = .returned (.agg #[.int .i64 (k : Int), .int .i64 5, .int .i64 (a : Int)]) ∧ D = ((y.give (z : Int)).1, .bad k a))
set_option maxRecDepth 100000 in
set_option maxHeartbeats 4000000 in
theorem qoiTailC {w : World} {p g z W H a0 : Nat} {s : ByteArray} {L : List Qc} {x0 : Led} (S0 : SrcAt w p g s 0 s.size a0) (hsm : s.size ≤ 1099511627776) (ha0 : a0 ≤ s.size) (L0 : LedAt w g x0) (ok0 : x0.Ok) (hx0 : x0.reason = 0) :
    Calls Tryz.prog 61 #[.pointer (some ⟨p, 0, none⟩)] w fun e w' => QtPost w w' p g z ((qoiTail s W H z L 8 a0).run x0) W H (flat L) x0 e := by
  obtain ⟨D, hD⟩ : ∃ D, (qoiTail s W H z L 8 a0).run x0 = D := ⟨_, rfl⟩
  rw [hD]
  have hp := Blk.lt S0
  have hg := Blk.lt L0
  have I0 : QtI w (w.alloc (.cells #[.int .i64 0, .int .i64 0, .int .i64 0] 31)) p g w.heap.size a0 s x0 x0 := ⟨Blk.alloc S0 _, Blk.alloc L0 _, FB.new w, (Turn.refl _ _).alloc _, Nat.le_refl _, ok0, hx0, rfl, ha0⟩
  clear S0 L0 ok0 hx0 ha0
  go_enter Tryz.func61, Tryz.ntmps61
  go_wp2_with fail
  generalize w.alloc (.cells #[.int .i64 0, .int .i64 0, .int .i64 0] 31) = w1 at I0 ⊢
  generalize w.heap.size = f at I0 ⊢
  have I1 := Lib.hid (And.intro I0 hD)
  clear I0 hD hp hg
  go_loopg [7] 8 (fun gh v wr => ∃ j m : Nat, m = gh ∧ v = .int .i64 (j : Int) ∧ j + m = 8 ∧ Hid (∃ a x, QtI w wr p g f a s x0 x ∧ (qoiTail s W H z L m a).run x = D))
  case atStart => exact ⟨0, 8, rfl, rfl, rfl, Lib.hid ⟨_, _, I1.out⟩⟩
  case round =>
    obtain ⟨j, m, hm, rfl, hj, hI⟩ := hrel
    clear I1
    obtain ⟨a, x, I, hrun⟩ := hI.out
    have hjb : (j : Int) ≤ 8 := by omega
    by_cases hlt : j < 8
    · have hltI : (j : Int) < 8 := by omega
      obtain ⟨n, rfl⟩ : ∃ n, m = n + 1 := ⟨m - 1, by omega⟩
      have HI := Lib.hid I
      have HRUN := Lib.hid hrun
      have HO : Hid (SrcOk s 0 s.size a) := Lib.hid ⟨Nat.zero_le _, I.o, Nat.le_refl _, hsm⟩
      obtain ⟨q, hq⟩ : ∃ q : Nat, (7 - n) / 7 = q := ⟨_, rfl⟩
      have hq7 : (j : Int).tdiv 7 = (q : Int) := by rw [Int.tdiv_eq_ediv_of_nonneg (by omega)]; omega
      have hq8 : (j : Int) / 7 = (q : Int) := by omega
      have HQ := Lib.hid hq
      have HJ := Lib.hid hj
      clear I hrun hI hq hj
      go_wp2_with (first
        | (go_at_call 108; refine (srcAt_at HI.out.S).mono ?_; rintro e w3 ⟨rfl, rfl⟩)
        | (go_at_call 117; refine (srcU8_ways HI.out.S HO.out HI.out.L HI.out.ok HI.out.r).mono ?_; rintro e w4 ⟨y, l4, yok, yb, t4, hor⟩; have f4 := FB.turn HI.out.F t4 (by simp only [List.mem_cons, List.not_mem_nil, or_false, not_or]; exact ⟨Blk.ne_ HI.out.F HI.out.S (by decide), Blk.ne_ HI.out.F HI.out.L (by decide)⟩); have HB := Lib.hid (And.intro yok (yb.trans HI.out.b)); clear yok yb; rcases hor with ⟨kk, aa, rfl, s4, nr, nrun⟩ | ⟨rfl, s4, yr, ha1, hw1⟩)
        | (go_at_call 59; refine (srcFault_is 5 s4 l4 nr).mono ?_; rintro e w5 ⟨rfl, b5⟩; have f5 := FB.below f4 b5; obtain ⟨c0, c1, c2, z0, z1, z2, fl⟩ := FB.all f5)
        | (go_at_call 120; refine (qoiBadC 2 _ _).mono ?_; rintro e w5 ⟨rfl, b5⟩; have f5 := FB.below f4 b5; obtain ⟨c0, c1, c2, z0, z1, z2, fl⟩ := FB.all f5))
      · exact bodyPost_ret (v := .agg #[.int .i64 (kk : Int), .int .i64 5, .int .i64 (aa : Int)]) (by simp [results, Tryz.results61, go_sem, c0, c1, c2]) rfl ⟨y, Blk.st3 (Blk.below l4 b5 (Blk.lt l4)) (Blk.ne_ (Blk.below l4 b5 (Blk.lt l4)) f5 (by decide)), HB.out.1, HB.out.2, Turn.st3 ((HI.out.T.trans t4).trans (Turn.of_below b5)) (.inr HI.out.nf), .inr ⟨kk, aa, nr.ne, rfl, HRUN.out.symm.trans (nrun z _)⟩⟩
      · rename_i hv
        have hv' : ¬ bat s a = (7 - n) / 7 := by rw [HQ.out]; intro e; rw [e] at hv; simp at hv
        exact bodyPost_ret (v := .agg #[.int .i64 2, .int .i64 5, .int .i64 (a : Int)]) (by simp [results, Tryz.results61, go_sem, c0, c1, c2]) rfl ⟨y, Blk.st3 (Blk.below l4 b5 (Blk.lt l4)) (Blk.ne_ (Blk.below l4 b5 (Blk.lt l4)) f5 (by decide)), HB.out.1, HB.out.2, Turn.st3 ((HI.out.T.trans t4).trans (Turn.of_below b5)) (.inr HI.out.nf), .inr ⟨2, a, by decide, rfl, HRUN.out.symm.trans ((run_work_yes hw1).trans (by rw [if_pos (show a < s.size from ha1), if_neg hv']; rfl))⟩⟩
      · rename_i hv
        have hv' : bat s a = (7 - n) / 7 := by rw [HQ.out]; simp only [bne_eq_false_iff_eq] at hv; omega
        go_roundg n
        case measure => omega
        case rel => exact ⟨j + 1, n, rfl, by go_num, by have := HJ.out; omega, Lib.hid ⟨a + 1, y, ⟨s4, l4, f4, HI.out.T.trans t4, HI.out.nf, HB.out.1, yr, HB.out.2, ha1⟩, by rw [← HRUN.out]; exact ((run_work_yes hw1).trans (by rw [if_pos (show a < s.size from ha1), if_pos hv'])).symm⟩⟩
    · obtain rfl : j = 8 := by omega
      obtain rfl : m = 0 := by omega
      have HI := Lib.hid I
      have HRUN := Lib.hid hrun
      clear I hrun hI hj hm
      obtain ⟨c0, c1, c2, z0, z1, z2, fl⟩ := FB.all HI.out.F
      go_wp2_with fail
      exact bodyPost_ret (v := .agg #[.int .i64 0, .int .i64 0, .int .i64 0]) (by simp [results, Tryz.results61, go_sem, c0, c1, c2]) rfl ⟨x, Blk.st3 HI.out.L (Blk.ne_ HI.out.L HI.out.F (by decide)), HI.out.ok, HI.out.b, Turn.st3 HI.out.T (.inr HI.out.nf), .inl ⟨rfl, HRUN.out.symm⟩⟩
end Go.Proofs.YtojobfnbakiicaaGreat
namespace Go.Proofs.YtojobfnbakiicaaGreat
open Go.RowKit
set_option linter.unusedVariables false
set_option linter.unusedSimpArgs false

/-- what holds at a pixel -/
structure QpI (w0 w : World) (p g r b d f cx a W H z : Nat) (s : ByteArray) (L : List Qc) (last : Qc) (seen : List Qc) (x : Led) : Prop where
  P : PixI w0 w p g r b d f 0 s.size a W H s (pixL L z) x
  X : CodAt w cx last seen
  nx : w0.heap.size ≤ cx
  ok : x.Ok
  rs : x.reason = 0
  bz : (z : Int) ≤ x.bytes
  o : a ≤ s.size
/-- what the pixels leave -/
def QpPost (w w' : World) (p g r b d W H z : Nat) (s : ByteArray) (D : Led × DRes) (e : Ending) : Prop :=
  ∃ y l, PixE w w' p g r b d W H z l y ∧ ((e = .returned (.agg #[.int .i64 0, .int .i64 0, .int .i64 0]) ∧ ∃ (a : Nat) (L : List Qc), a ≤ s.size ∧ SrcAt w' p g s 0 s.size a ∧ l = flat L ∧ y.reason = 0 ∧ (qoiTail s W H z L 8 a).run y = D) ∨ ∃ k a : Nat, k ≠ 0 ∧ e = .returned (.agg #[.int .i64 (k : Int), .int .i64 5, .int .i64 (a : Int)]) ∧ D = ((y.give (z : Int)).1, .bad k a))
section
variable {w0 w w' : World} {p g r b d f cx a a' W H z : Nat} {s : ByteArray} {L : List Qc} {last : Qc} {seen : List Qc} {x y : Led}
theorem QpI.bad (P : PixI w0 w p g r b d f 0 s.size a W H s (pixL L z) x) (hl : 4 * L.length ≤ z) (ok : x.Ok) (hb : (z : Int) ≤ x.bytes) {D : Led × DRes} {k q : Nat} (hk : k ≠ 0) (hD : D = ((x.give (z : Int)).1, .bad k q)) {u v e : Value} : QpPost w0 (st3 w f u v e) p g r b d W H z s D (.returned (.agg #[.int .i64 (k : Int), .int .i64 5, .int .i64 (q : Int)])) :=
  ⟨_, _, P.fin (pixL_len hl) ok hb, .inr ⟨k, q, hk, rfl, hD⟩⟩
end
theorem qoiPix_zero {s : ByteArray} {W H N z fu a : Nat} {last : Qc} {seen L : List Qc} (h : N ≤ L.length) : qoiPix s W H N z fu a last seen L = qoiTail s W H z L 8 a := by
  cases fu <;> (unfold qoiPix; rw [if_pos h])
/-- a step, put -/
def qput (s : ByteArray) (W H N z fu a : Nat) (last : Qc) (seen L : List Qc) : Dec := if N - L.length < (qstep s a last seen).2 then .give z (.fin (.bad 2 a)) else works z (a + 1 + qneed (bat s a)) (qoiPix s W H N z fu (a + 1 + qneed (bat s a)) (qstep s a last seen).1 (seen.set (qplace (qstep s a last seen).1) (qstep s a last seen).1) (L ++ List.replicate (qstep s a last seen).2 (qstep s a last seen).1)) (qstep s a last seen).2
theorem qoiPix_succ {s : ByteArray} {W H N z fu a : Nat} {last : Qc} {seen L : List Qc} (h : ¬ N ≤ L.length) : qoiPix s W H N z (fu + 1) a last seen L = .work 1 z a (if a + 1 ≤ s.size then (if qneed (bat s a) = 0 then qput s W H N z fu a last seen L else .work 1 z (a + 1) (if a + 1 + qneed (bat s a) ≤ s.size then qput s W H N z fu a last seen L else .give z (.fin (.bad 1 s.size)))) else .give z (.fin (.bad 1 s.size))) := by
  rw [qoiPix, if_neg h]
  rfl
theorem prod_wrap {W H N : Nat} (h : W * H = N) (hb : N ≤ 1099511627776) : wrap64 ((W : Int) * (H : Int)) = (N : Int) := by
  have e : (W : Int) * (H : Int) = (N : Int) := by rw [← h, Int.natCast_mul]
  rw [e]
  exact wrap64_id _ (by omega) (by omega)
set_option maxRecDepth 100000 in
set_option maxHeartbeats 8000000 in
theorem qoiPixels {w : World} {p g r b d W H N z : Nat} {s : ByteArray} {x0 : Led} (S0 : SrcAt w p g s 0 s.size 14) (hsm : s.size ≤ 1099511627776) (hs14 : 14 ≤ s.size) (L0 : LedAt w g x0) (ok0 : x0.Ok) (hx0 : x0.reason = 0) (R0 : RasAt w r g b (W : Int) (H : Int) true) (B0 : BufAt w b g d (List.replicate z 0)) (hz0 : (z : Int) ≤ x0.bytes)
    (hN : W * H = N) (hz : 4 * N = z) (hW : 1 ≤ W ∧ W ≤ 16384) (hH : 1 ≤ H ∧ H ≤ 16384) :
    Calls Tryz.prog 60 #[.pointer (some ⟨p, 0, none⟩), .pointer (some ⟨r, 0, none⟩)] w fun e w' => QpPost w w' p g r b d W H z s ((qoiPix s W H N z N 14 q255 qseen []).run x0) e := by
  obtain ⟨D, hD⟩ : ∃ D, (qoiPix s W H N z N 14 q255 qseen []).run x0 = D := ⟨_, rfl⟩
  rw [hD]
  have hN1 : N ≤ 16384 * 16384 := by rw [← hN]; exact Nat.mul_le_mul hW.2 hH.2
  have hNI := prod_wrap hN (by omega)
  have P0 : PixI w (w.alloc (.cells #[.int .i64 0, .int .i64 0, .int .i64 0] 31)) p g r b d w.heap.size 0 s.size 14 W H s (pixL [] z) x0 := ⟨Blk.alloc S0 _, Blk.alloc L0 _, Blk.alloc R0 _, by rw [pixL_nil]; exact ⟨Blk.alloc B0.blk _, Blk.alloc B0.row _⟩, FB.new w, (Turn.refl _ _).alloc _, Nat.le_refl _⟩
  clear S0 L0 R0 B0
  have HP0 := Lib.hid P0
  have HD := Lib.hid hD
  have HK := Lib.hid (And.intro ok0 (And.intro hx0 hz0))
  have HN := Lib.hid hN
  have HZ := Lib.hid hz
  have HW := Lib.hid hW
  have HH := Lib.hid hH
  have HN1 := Lib.hid hN1
  clear P0 hD ok0 hx0 hz0 hN hz hW hH hN1
  go_enter Tryz.func60, Tryz.ntmps60
  go_wp2_with fail
  go_step3
  go_wp2_with (first
    | (go_at_call 48; refine (qoiBegin _).mono ?_; rintro e w1 ⟨cx, rfl, hcx, C1, b1⟩; have P1 := HP0.out.below b1; have P2 := Lib.hid P1)
    | (go_at_call 115; refine (rasWidth_at P2.out.R).mono ?_; rintro e w3 ⟨rfl, rfl⟩)
    | (go_at_call 116; refine (rasHeight_at P2.out.R).mono ?_; rintro e w3 ⟨rfl, rfl⟩))
  go_step3
  go_wp2_with fail
  rw [hNI]
  have I1 : Hid (QpI w w1 p g r b d w.heap.size cx 14 W H z s [] q255 qseen x0) := Lib.hid ⟨P2.out, C1, by have := HP0.out.T.size; omega, HK.out.1, HK.out.2.1, HK.out.2.2, hs14⟩
  generalize w.heap.size = f at I1 ⊢
  clear HP0 P1 P2 C1 b1 hcx HK hNI
  go_loopg [7] N (fun gh v7 wr => ∃ k, gh + k = N ∧ v7 = .int .i64 (k : Int) ∧ Hid (∃ fu a last seen L x, QpI w wr p g r b d f cx a W H z s L last seen x ∧ L.length = k ∧ N ≤ fu + k ∧ (qoiPix s W H N z fu a last seen L).run x = D))
  case atStart => exact ⟨0, rfl, rfl, Lib.hid ⟨N, 14, q255, qseen, [], x0, I1.out, rfl, by omega, HD.out⟩⟩
  case round =>
    obtain ⟨k, hk, rfl, hI⟩ := hrel
    clear I1 HD
    obtain ⟨fu, a, last, seen, L, x, I, hL, hfu, hrun⟩ := hI.out
    have hNb : N ≤ 268435456 := HN1.out
    by_cases hlt : k < N
    · have hltI : (k : Int) < (N : Int) := by omega
      obtain ⟨fu, rfl⟩ : ∃ n, fu = n + 1 := ⟨fu - 1, by omega⟩
      rw [qoiPix_succ (by omega)] at hrun
      have HI := Lib.hid I
      have HRUN := Lib.hid hrun
      have HL := Lib.hid hL
      have HFU := Lib.hid hfu
      have HKN := Lib.hid hk
      have HO : Hid (SrcOk s 0 s.size a) := Lib.hid ⟨Nat.zero_le _, I.o, Nat.le_refl _, hsm⟩
      have h4L : Hid (4 * L.length ≤ z) := Lib.hid (by have := HZ.out; omega)
      have HI0 := Lib.hid I.nx
      clear I hrun hI hL hfu hk
      go_wp2_with (first
        | (go_at_call 108; refine (srcAt_at HI.out.P.S).mono ?_; rintro e w3 ⟨rfl, rfl⟩)
        | (go_at_call 117; refine (srcU8_ways HI.out.P.S HO.out HI.out.P.L HI.out.ok HI.out.rs).mono ?_; rintro e w4 ⟨y, l4, yok, yb, t4, hor⟩; have hyb : (z : Int) ≤ y.bytes := (by rw [yb]; exact HI.out.bz); have X4 := HI.out.P.keepT HI.out.X.1 t4 (by decide) (by decide); have HB := Lib.hid (And.intro yok hyb); clear yok hyb yb; rcases hor with ⟨kk, aa, rfl, s4, nr, nrun⟩ | ⟨rfl, s4, yr, ha1, hw1⟩; all_goals (have P4 := HI.out.P.take t4 s4 l4; clear s4 l4 t4))
        | (go_at_call 59; refine (srcFault_is 5 P4.S P4.L nr).mono ?_; rintro e w5 ⟨rfl, b5⟩; have P5 := P4.below b5; obtain ⟨c0, c1, c2, z0, z1, z2, fl⟩ := FB.all P5.F))
      · rw [Exit.noGoto_ret]
        exact bodyPost_ret (v := .agg #[.int .i64 (kk : Int), .int .i64 5, .int .i64 (aa : Int)]) (by simp [results, Tryz.results60, go_sem, c0, c1, c2]) rfl (QpI.bad P5 h4L.out HB.out.1 HB.out.2 nr.ne (HRUN.out.symm.trans (nrun z _)))
      · have hbl := bat_lt s a
        obtain ⟨nn, hnn⟩ : ∃ nn, qneed (bat s a) = nn := ⟨_, rfl⟩
        have HND := Lib.hid (fun w => qoiNeed hbl hnn w)
        obtain ⟨c, m, hcm⟩ : ∃ c m, qstep s a last seen = (c, m) := ⟨_, _, rfl⟩
        have hm1 := qstep_pos s a last seen
        have HST := Lib.hid (fun (w' : World) (mo : ByteArray) (X : CodAt w' cx last seen) h1 h2 => qoiStep (s := s) (a := a) (m := mo) X h1 h2)
        have hrun1 := (run_work_yes hw1).symm.trans HRUN.out
        unfold qput at hrun1
        rw [hcm] at hm1 HST hrun1
        rw [if_pos ha1, hnn] at hrun1
        rw [hnn] at HST
        simp only at hm1 HST hrun1
        obtain ⟨a2, ha2⟩ : ∃ a2, a + 1 + nn = a2 := ⟨_, rfl⟩
        rw [ha2] at hrun1 HST
        obtain ⟨K, hKE⟩ : ∃ K, K = qoiPix s W H N z fu a2 c (seen.set (qplace c) c) (L ++ List.replicate m c) := ⟨_, rfl⟩
        rw [← hKE] at hrun1
        have KE := Lib.hid hKE
        clear hKE
        have HX4 : Hid (CodAt w4 cx last seen) := Lib.hid ⟨X4, HI.out.X.2⟩
        have HO2 : Hid (SrcOk s 0 s.size (a + 1)) := Lib.hid ⟨Nat.zero_le _, ha1, Nat.le_refl _, hsm⟩
        have HP4 := Lib.hid P4
        have HRUN1 := Lib.hid hrun1
        have HA2 := Lib.hid ha2
        clear X4 P4 hrun1 ha2 hnn hcm hw1 HRUN
        have HA20 := HA2
        have HA20 := HA2
        have HA20 := HA2
        have HA20 := HA2
        have HA20 := HA2
        have HA20 := HA2
        have HA20 := HA2
        have HA20 := HA2
        have HA20 := HA2
        by_cases h0 : nn = 0
        · rw [if_pos h0] at HRUN1
          have hn0I : ¬ (0 : Int) < (nn : Int) := by omega
          have H0 := Lib.hid h0
          have hs2 : a2 ≤ s.size := by have := HA2.out; omega
          have HA20 : Hid (a + 1 = a2) := Lib.hid (by have := HA2.out; omega)
          clear h0
          by_cases hbad : N - k < m
          · have hbadI : (N : Int) - (k : Int) < (m : Int) := by omega
            go_wp2_with (first
              | (go_at_call 118; refine (HND.out _).mono ?_; rintro e w5 ⟨rfl, rfl⟩)
              | (go_at_call 119; refine (HST.out _ ⟨#[]⟩ HX4.out (fun e => absurd H0.out (Nat.ne_of_gt e)) hs2).mono ?_; rintro e w7 ⟨rfl, b7⟩; unfold Qc.v; have P7 := HP4.out.below b7; have X8 : CodAt w7 cx last seen := ⟨Blk.below HX4.out.1 b7 (Blk.lt HX4.out.1), HX4.out.2⟩; have P8 : PixI w w7 p g r b d f 0 s.size a2 W H s (pixL L z) y := (HA20.out ▸ P7); have Y8 : Hid (y.Ok ∧ (z : Int) ≤ y.bytes ∧ y.reason = 0) := Lib.hid ⟨HB.out.1, HB.out.2, yr⟩; have HRUN8 := HRUN1)
              | (go_at_call 120; have P9 := P8.alloc (.cells #[.int .u8 (c.r.toNat : Int), .int .u8 (c.g.toNat : Int), .int .u8 (c.b.toNat : Int), .int .u8 (c.a.toNat : Int)] 67); refine (qoiBadC 2 _ _).mono ?_; rintro e w9 ⟨rfl, b9⟩; have P10 := P9.below b9; obtain ⟨c0, c1, c2, z0, z1, z2, fl⟩ := FB.all P10.F))
            rw [Exit.noGoto_ret]
            exact bodyPost_ret (v := .agg #[.int .i64 2, .int .i64 5, .int .i64 (a : Int)]) (by simp [results, Tryz.results60, go_sem, c0, c1, c2]) rfl (QpI.bad P10 h4L.out Y8.out.1 Y8.out.2.1 (by decide) (by have := HRUN8.out; rw [if_pos (show N - L.length < m by rw [HL.out]; exact hbad)] at this; exact this.symm))
          · have hbadI : ¬ (N : Int) - (k : Int) < (m : Int) := by omega
            go_wp2_with (first
              | (go_at_call 118; refine (HND.out _).mono ?_; rintro e w5 ⟨rfl, rfl⟩)
              | (go_at_call 119; refine (HST.out _ ⟨#[]⟩ HX4.out (fun e => absurd H0.out (Nat.ne_of_gt e)) hs2).mono ?_; rintro e w7 ⟨rfl, b7⟩; unfold Qc.v; have P7 := HP4.out.below b7; have X8 : CodAt w7 cx last seen := ⟨Blk.below HX4.out.1 b7 (Blk.lt HX4.out.1), HX4.out.2⟩; have P8 : PixI w w7 p g r b d f 0 s.size a2 W H s (pixL L z) y := (HA20.out ▸ P7); have Y8 : Hid (y.Ok ∧ (z : Int) ≤ y.bytes ∧ y.reason = 0) := Lib.hid ⟨HB.out.1, HB.out.2, yr⟩; have HRUN8 := HRUN1)
              | (go_at_call 51; have Q9 : QB (w7.alloc (.cells #[.int .u8 (c.r.toNat : Int), .int .u8 (c.g.toNat : Int), .int .u8 (c.b.toNat : Int), .int .u8 (c.a.toNat : Int)] 67)) w7.heap.size c := Blk.new _ _ _; have X9 : CodAt (w7.alloc (.cells #[.int .u8 (c.r.toNat : Int), .int .u8 (c.g.toNat : Int), .int .u8 (c.b.toNat : Int), .int .u8 (c.a.toNat : Int)] 67)) cx last seen := ⟨Blk.alloc X8.1 _, X8.2⟩; have P9 := P8.alloc (.cells #[.int .u8 (c.r.toNat : Int), .int .u8 (c.g.toNat : Int), .int .u8 (c.b.toNat : Int), .int .u8 (c.a.toNat : Int)] 67); have nq9 : w.heap.size ≤ w7.heap.size := P8.T.size; refine (qoiNote X9 rfl).mono ?_; rintro e w9 ⟨rfl, x9, t9⟩; have P10 := P9.own X9.1 HI0.out t9 (by decide) (by decide) (by decide) (by decide) (by decide) (by decide); have Q10 : QB w9 w7.heap.size c := Blk.turn Q9 t9 (by simpa using Blk.ne_ Q9 X9.1 (by decide))))
            have I10 : Hid (∃ x, PixI w w9 p g r b d f 0 s.size a2 W H s (pixL (L ++ List.replicate 0 c) z) x ∧ CodAt w9 cx c (seen.set (qplace c) c) ∧ QB w9 w7.heap.size c ∧ x.Ok ∧ x.reason = 0 ∧ (z : Int) ≤ x.bytes ∧ (works z a2 K m).run x = D) := Lib.hid ⟨y, by rw [List.replicate_zero, List.append_nil]; exact P10, x9, Q10, Y8.out.1, Y8.out.2.2, Y8.out.2.1, by have := HRUN8.out; rw [if_neg (show ¬ N - L.length < m by rw [HL.out]; exact hbad)] at this; exact this⟩
            have HK : Hid (K = qoiPix s W H N z fu a2 c (seen.set (qplace c) c) (L ++ List.replicate m c)) := Lib.hid KE.out
            have HMN : Hid (k + m ≤ N) := Lib.hid (by omega)
            have HA9 : Hid (a2 ≤ s.size) := Lib.hid (by have := HA2.out; omega)
            generalize w7.heap.size = qb at I10 nq9 ⊢
            clear P10 Q10 x9 t9 HRUN8 Y8 P8 X8 P9 X9 Q9 HST HND HP4 HX4 HRUN1 HB HO2 HI HO b7 hbad hbadI
            go_loopg [7, 67] m (fun gh v7 v67 wr => ∃ i m', m' = gh ∧ i + m' = m ∧ v67 = .int .i64 (i : Int) ∧ v7 = .int .i64 ((k + i : Nat) : Int) ∧ Hid (∃ x, PixI w wr p g r b d f 0 s.size a2 W H s (pixL (L ++ List.replicate i c) z) x ∧ CodAt wr cx c (seen.set (qplace c) c) ∧ QB wr qb c ∧ x.Ok ∧ x.reason = 0 ∧ (z : Int) ≤ x.bytes ∧ (works z a2 K m').run x = D))
            case atStart => exact ⟨0, m, rfl, by omega, rfl, rfl, I10⟩
            case round =>
              obtain ⟨i, m', hm', hi, rfl, rfl, hJ⟩ := hrel
              clear I10
              obtain ⟨x, P, X, Q, ok, hx, hb, hrun⟩ := hJ.out
              have HJ := Lib.hid (And.intro P (And.intro X Q))
              have HJ2 := Lib.hid (And.intro ok (And.intro hx hb))
              have HRUN := Lib.hid hrun
              clear P X Q ok hx hb hrun hJ
              by_cases hlt : i < m
              · have hltI : (i : Int) < (m : Int) := by omega
                obtain ⟨m'', rfl⟩ : ∃ n, m' = n + 1 := ⟨m' - 1, by omega⟩
                obtain ⟨j, hj⟩ : ∃ j, k + i = j := ⟨_, rfl⟩
                rw [hj]
                obtain ⟨X, hX⟩ : ∃ X, j % W = X := ⟨_, rfl⟩
                obtain ⟨Y, hY⟩ : ∃ Y, j / W = Y := ⟨_, rfl⟩
                have hW0 : 0 < W := HW.out.1
                have hjN : j < N := by have := HMN.out; omega
                have hXW : X < W := by rw [← hX]; exact Nat.mod_lt _ hW0
                have hYW : Y * W + X = j := by rw [← hX, ← hY, Nat.mul_comm]; exact Nat.div_add_mod j W
                have hYH : Y < H := by rw [← hY]; exact (Nat.div_lt_iff_lt_mul hW0).2 (by rw [Nat.mul_comm, HN.out]; exact hjN)
                have hWne : ¬ (W : Int) = 0 := by omega
                have hWn : ¬ W = 0 := by omega
                have hwY : IntKind.i64.wrap (Y : Int) = (Y : Int) := IntWalk.i64_in (Y : Int) (by have := HH.out; omega)
                have e1 : (j : Int) % (W : Int) = (X : Int) := by rw [← hX]; exact (Int.natCast_emod j W).symm
                have e2 : (j : Int) / (W : Int) = (Y : Int) := by rw [← hY]; exact (Int.natCast_ediv j W).symm
                have e3 : (j : Int).tmod (W : Int) = (X : Int) := by rw [Int.tmod_eq_emod_of_nonneg (Int.natCast_nonneg _)]; exact e1
                have e4 : (j : Int).tdiv (W : Int) = (Y : Int) := by rw [Int.tdiv_eq_ediv_of_nonneg (Int.natCast_nonneg _)]; exact e2
                obtain ⟨pr, hpr⟩ : ∃ pr, Y * W = pr := ⟨_, rfl⟩
                have HPR := Lib.hid hpr
                have HI4 : Hid (4 * (pr + X) = 4 * j) := Lib.hid (by rw [← hpr, hYW])
                have hprb : Hid (pr ≤ 1073741824) := Lib.hid (by rw [← hpr]; have := HN1.out; omega)
                have hLl : (L ++ List.replicate i c).length = j := by rw [List.length_append, List.length_replicate, HL.out, hj]
                have HLL := Lib.hid hLl
                have HL4 : Hid (4 * j + 4 ≤ (pixL (L ++ List.replicate i c) z).length) := Lib.hid (by rw [pixL_len (by have := HZ.out; omega)]; have := HZ.out; omega)
                have HLS : Hid ((pixL (L ++ List.replicate i c) z).length ≤ 1099511627776) := Lib.hid (by rw [pixL_len (by have := HZ.out; omega)]; have := HZ.out; have := HN1.out; omega)
                have hjI : (j : Int) ≤ 268435456 := by omega
                have HJN := Lib.hid hjN
                have HJE := Lib.hid hj
                have HIM := Lib.hid hi
                obtain ⟨q0, q1, q2, q3, ql⟩ := QB.all HJ.out.2.2
                clear hX hY hYW hpr hLl hj hi
                go_wp2_with fail
                refine wp_region_held_drew (S := (fun w' => w'.cell? ⟨qb, 0, none⟩ = some (.int .u8 (c.r.toNat : Int)) ∧ w'.cell? ⟨qb, 1, none⟩ = some (.int .u8 (c.g.toNat : Int)) ∧ w'.cell? ⟨qb, 2, none⟩ = some (.int .u8 (c.b.toNat : Int)) ∧ w'.cell? ⟨qb, 3, none⟩ = some (.int .u8 (c.a.toNat : Int)))) (by kernel_rfl) ⟨q0, q1, q2, q3⟩ (fun hHeld => ?_)
                refine wpAnyH_take (i := 0) (v := ?_) rfl (by kernel_rfl) (by kernel_rfl) (by kernel_rfl) (fun _ _ _ h => h) (Or.inl ⟨by kernel_rfl, ?_⟩) (by assumption) ?_
                rotate_left
                · intro w hSw; (try dsimp only at hSw); go_simp; (try with_reducible rfl)
                (try simp only [Act.put, List.setIfInBounds_toArray, List.set_cons_zero, List.set_cons_succ])
                refine wpAnyH_take (i := 1) (v := ?_) rfl (by kernel_rfl) (by kernel_rfl) (by kernel_rfl) (fun _ _ _ h => h) (Or.inl ⟨by kernel_rfl, ?_⟩) (by assumption) ?_
                rotate_left
                · intro w hSw; (try dsimp only at hSw); go_simp; (try with_reducible rfl)
                (try simp only [Act.put, List.setIfInBounds_toArray, List.set_cons_zero, List.set_cons_succ])
                refine wpAnyH_take (i := 2) (v := ?_) rfl (by kernel_rfl) (by kernel_rfl) (by kernel_rfl) (fun _ _ _ h => h) (Or.inl ⟨by kernel_rfl, ?_⟩) (by assumption) ?_
                rotate_left
                · intro w hSw; (try dsimp only at hSw); go_simp; (try with_reducible rfl)
                (try simp only [Act.put, List.setIfInBounds_toArray, List.set_cons_zero, List.set_cons_succ])
                refine wpAnyH_take (i := 5) (v := ?_) rfl (by kernel_rfl) (by kernel_rfl) (by kernel_rfl) (fun _ _ _ h => h) (Or.inl ⟨by kernel_rfl, ?_⟩) (by assumption) ?_
                rotate_left
                · intro w hSw; (try dsimp only at hSw); go_simp; (try with_reducible rfl)
                (try simp only [Act.put, List.setIfInBounds_toArray, List.set_cons_zero, List.set_cons_succ])
                refine wpAnyH_take (i := 6) (v := ?_) rfl (by kernel_rfl) (by kernel_rfl) (by kernel_rfl) (fun _ _ _ h => h) (Or.inl ⟨by kernel_rfl, ?_⟩) (by assumption) ?_
                rotate_left
                · intro w hSw; (try dsimp only at hSw); go_simp; (try with_reducible rfl)
                (try simp only [Act.put, List.setIfInBounds_toArray, List.set_cons_zero, List.set_cons_succ])
                refine wpAnyH_take (i := 9) (v := ?_) rfl (by kernel_rfl) (by kernel_rfl) (by kernel_rfl) (fun _ _ _ h => h) (Or.inl ⟨by kernel_rfl, ?_⟩) (by assumption) ?_
                rotate_left
                · intro w hSw; (try dsimp only at hSw); go_simp; (try with_reducible rfl)
                (try simp only [Act.put, List.setIfInBounds_toArray, List.set_cons_zero, List.set_cons_succ])
                refine wpAnyH_ready (rs := [3]) (by kernel_rfl) (by simp) ?_
                refine AllReadyH.cons rfl (fun K hK => ?_) AllReadyH.nil
                go_simp
                refine (rasWidth_at (Blk.drew HJ.out.1.R)).mono ?_
                rintro e w11 ⟨rfl, rfl⟩
                refine hK.out _ _ hHeld (fun hHeld' => ?_)
                clear hK K hHeld
                have hHeld := hHeld'
                clear hHeld'
                (try simp only [Act.put, List.setIfInBounds_toArray, List.set_cons_zero, List.set_cons_succ])
                refine wpAnyH_take (i := 4) (v := ?_) rfl (by kernel_rfl) (by kernel_rfl) (by kernel_rfl) (fun _ _ _ h => h) (Or.inl ⟨by kernel_rfl, ?_⟩) (by assumption) ?_
                rotate_left
                · intro w hSw; (try dsimp only at hSw); go_simp; (try with_reducible rfl)
                (try simp only [Act.put, List.setIfInBounds_toArray, List.set_cons_zero, List.set_cons_succ])
                refine wpAnyH_ready (rs := [7]) (by kernel_rfl) (by simp) ?_
                refine AllReadyH.cons rfl (fun K hK => ?_) AllReadyH.nil
                go_simp
                refine (rasWidth_at (Blk.drew HJ.out.1.R)).mono ?_
                rintro e w11 ⟨rfl, rfl⟩
                refine hK.out _ _ hHeld (fun hHeld' => ?_)
                clear hK K hHeld
                have hHeld := hHeld'
                clear hHeld'
                (try simp only [Act.put, List.setIfInBounds_toArray, List.set_cons_zero, List.set_cons_succ])
                refine wpAnyH_take (i := 8) (v := ?_) rfl (by kernel_rfl) (by kernel_rfl) (by kernel_rfl) (fun _ _ _ h => h) (Or.inl ⟨by kernel_rfl, ?_⟩) (by assumption) ?_
                rotate_left
                · intro w hSw; (try dsimp only at hSw); go_simp; (try with_reducible rfl)
                (try simp only [Act.put, List.setIfInBounds_toArray, List.set_cons_zero, List.set_cons_succ])
                refine wpAnyH_ready (rs := [10]) (by kernel_rfl) (by simp) ?_
                refine AllReadyH.cons rfl (fun K hK => ?_) AllReadyH.nil
                go_simp
                refine (rasSet_ways (c0 := c.r) (c1 := c.g) (c2 := c.b) (c3 := c.a) HJ.out.1.drew.R HJ.out.1.drew.B HJ.out.1.drew.L HJ2.out.1 HJ2.out.2.1 hXW hYH HPR.out HI4.out hprb.out HW.out.2 HH.out.2 HL4.out HLS.out).mono ?_
                rintro e w12 ⟨y', l12, yok', yb', hor⟩
                have hyb' : (z : Int) ≤ y'.bytes := by rw [yb']; exact HJ2.out.2.2
                rcases hor with ⟨rfl, t12, yr', hno⟩ | ⟨rfl, t12, b12, yr', hyes⟩
                · have P12 := HJ.out.1.drew.led t12 l12
                  have Q12 : QB w12 qb c := HJ.out.1.drew.keepG (Blk.drew HJ.out.2.2) t12 (by decide)
                  obtain ⟨p0, p1, p2, p3, pl⟩ := QB.all Q12
                  refine hK.out _ _ ⟨p0, p1, p2, p3⟩ (fun hHeld' => ?_)
                  clear hK K hHeld
                  have hHeld := hHeld'
                  clear hHeld'
                  (try simp only [Act.put, List.setIfInBounds_toArray, List.set_cons_zero, List.set_cons_succ])
                  refine wpAnyH_take (i := 11) (v := ?_) rfl (by kernel_rfl) (by kernel_rfl) (by kernel_rfl) (fun _ _ _ h => h) (Or.inl ⟨by kernel_rfl, ?_⟩) (by assumption) ?_
                  rotate_left
                  · intro w hSw; (try dsimp only at hSw); go_simp; (try with_reducible rfl)
                  (try simp only [Act.put, List.setIfInBounds_toArray, List.set_cons_zero, List.set_cons_succ])
                  refine wpAnyH_done (by kernel_rfl) ?_ _
                  go_wp2_with (go_at_call 59; refine (srcFault_is 5 P12.S P12.L (.inl ⟨yr', rfl, rfl⟩)).mono ?_; rintro e w13 ⟨rfl, b13⟩; have P13 := P12.below b13; obtain ⟨c0, c1, c2, z0, z1, z2, fl⟩ := FB.all P13.F)
                  rw [Exit.noGoto_ret]
                  exact bodyPost_ret (v := .agg #[.int .i64 4, .int .i64 5, .int .i64 (a2 : Int)]) (by simp [results, Tryz.results60, go_sem, c0, c1, c2]) rfl (QpI.bad P13 (by rw [HLL.out]; have := HZ.out; have := HJN.out; omega) yok' hyb' (by decide) (HRUN.out.symm.trans (hno _ _ _)))
                · have P12 := HJ.out.1.drew.set t12 b12 l12
                  have X12 : CodAt w12 cx c (seen.set (qplace c) c) := ⟨HJ.out.1.drew.keepS (Blk.drew HJ.out.2.1.1) t12 (by decide) (by decide), HJ.out.2.1.2⟩
                  have Q12 : QB w12 qb c := HJ.out.1.drew.keepS (Blk.drew HJ.out.2.2) t12 (by decide) (by decide)
                  obtain ⟨p0, p1, p2, p3, pl⟩ := QB.all Q12
                  refine hK.out _ _ ⟨p0, p1, p2, p3⟩ (fun hHeld' => ?_)
                  clear hK K hHeld
                  have hHeld := hHeld'
                  clear hHeld'
                  (try simp only [Act.put, List.setIfInBounds_toArray, List.set_cons_zero, List.set_cons_succ])
                  refine wpAnyH_take (i := 11) (v := ?_) rfl (by kernel_rfl) (by kernel_rfl) (by kernel_rfl) (fun _ _ _ h => h) (Or.inl ⟨by kernel_rfl, ?_⟩) (by assumption) ?_
                  rotate_left
                  · intro w hSw; (try dsimp only at hSw); go_simp; (try with_reducible rfl)
                  (try simp only [Act.put, List.setIfInBounds_toArray, List.set_cons_zero, List.set_cons_succ])
                  refine wpAnyH_done (by kernel_rfl) ?_ _
                  go_wp2_with fail
                  go_roundg m''
                  case measure => omega
                  case rel =>
                    refine ⟨i + 1, m'', rfl, by have := HIM.out; omega, by go_num, vint (by have := HJE.out; omega), Lib.hid ⟨y', ?_, X12, Q12, yok', yr', hyb', HRUN.out ▸ (hyes _ _ _).symm⟩⟩
                    have e := pixL_next (L := L ++ List.replicate i c) (z := z) c (by rw [HLL.out]; have := HZ.out; have := HJN.out; omega)
                    rw [HLL.out] at e
                    rw [List.replicate_succ', ← List.append_assoc, ← e]
                    exact P12
              · obtain rfl : i = m := by omega
                obtain rfl : m' = 0 := by omega
                have hltI : ¬ (i : Int) < (i : Int) := by omega
                clear hm' hi
                go_wp2_with fail
                go_roundg (N - (k + i))
                case measure => have := HKN.out; omega
                case rel =>
                  refine ⟨k + i, by have := HMN.out; omega, rfl, Lib.hid ⟨fu, a2, c, seen.set (qplace c) c, L ++ List.replicate i c, x, ⟨HJ.out.1, HJ.out.2.1, HI0.out, HJ2.out.1, HJ2.out.2.1, HJ2.out.2.2, HA9.out⟩, by rw [List.length_append, List.length_replicate, HL.out], by have := HFU.out; omega, by rw [← HK.out]; exact HRUN.out⟩⟩
        · rw [if_neg h0] at HRUN1
          have hn0I : (0 : Int) < (nn : Int) := by omega
          clear h0
          by_cases hbad : N - k < m
          · have hbadI : (N : Int) - (k : Int) < (m : Int) := by omega
            go_wp2_with (first
              | (go_at_call 118; refine (HND.out _).mono ?_; rintro e w5 ⟨rfl, rfl⟩)
              | (go_at_call 109; refine (srcTake_ways nn HP4.out.S HO2.out HP4.out.L HB.out.1 yr).mono ?_; rintro e w5 ⟨y5, l5, yok5, yb5, t5, hor⟩; have hyb5 : (z : Int) ≤ y5.bytes := (by rw [yb5]; exact HB.out.2); have X5 : CodAt w5 cx last seen := ⟨HP4.out.keepT HX4.out.1 t5 (by decide) (by decide), HX4.out.2⟩; have HB5 := Lib.hid (And.intro yok5 hyb5); clear yok5 hyb5 yb5; rcases hor with ⟨kk, aa, rfl, s5, nr, nrun⟩ | ⟨rfl, s5, yr5, ha5, hw5⟩; all_goals (have P5 := HP4.out.take t5 s5 l5; clear s5 l5 t5))
              | (go_at_call 119; refine (HST.out _ (s.extract (a + 1) (a + 1 + nn)) X5 (fun _ => by rw [← HA2.out]) (by have := HA2.out; omega)).mono ?_; rintro e w7 ⟨rfl, b7⟩; unfold Qc.v; have P7 := P5.below b7; have X8 : CodAt w7 cx last seen := ⟨Blk.below X5.1 b7 (Blk.lt X5.1), X5.2⟩; have P8 : PixI w w7 p g r b d f 0 s.size a2 W H s (pixL L z) y5 := (HA2.out ▸ P7); have Y8 : Hid (y5.Ok ∧ (z : Int) ≤ y5.bytes ∧ y5.reason = 0) := Lib.hid ⟨HB5.out.1, HB5.out.2, yr5⟩; have hrun8 := (run_work_yes hw5).symm.trans HRUN1.out; rw [if_pos (show a2 ≤ s.size by have := HA2.out; omega)] at hrun8; have HRUN8 := Lib.hid hrun8; clear hrun8)
              | (go_at_call 120; have P9 := P8.alloc (.cells #[.int .u8 (c.r.toNat : Int), .int .u8 (c.g.toNat : Int), .int .u8 (c.b.toNat : Int), .int .u8 (c.a.toNat : Int)] 67); refine (qoiBadC 2 _ _).mono ?_; rintro e w9 ⟨rfl, b9⟩; have P10 := P9.below b9; obtain ⟨c0, c1, c2, z0, z1, z2, fl⟩ := FB.all P10.F)
              | (go_at_call 59; refine (srcFault_is 5 P5.S P5.L nr).mono ?_; rintro e w9 ⟨rfl, b9⟩; have P9 := P5.below b9; obtain ⟨c0, c1, c2, z0, z1, z2, fl⟩ := FB.all P9.F))
            · rw [Exit.noGoto_ret]
              exact bodyPost_ret (v := .agg #[.int .i64 (kk : Int), .int .i64 5, .int .i64 (aa : Int)]) (by simp [results, Tryz.results60, go_sem, c0, c1, c2]) rfl (QpI.bad P9 h4L.out HB5.out.1 HB5.out.2 nr.ne (HRUN1.out.symm.trans (by have h := nrun; unfold NoRun at h; rw [HA2.out] at h; exact h _ _)))
            · rw [Exit.noGoto_ret]
              exact bodyPost_ret (v := .agg #[.int .i64 2, .int .i64 5, .int .i64 (a : Int)]) (by simp [results, Tryz.results60, go_sem, c0, c1, c2]) rfl (QpI.bad P10 h4L.out Y8.out.1 Y8.out.2.1 (by decide) (by have := HRUN8.out; rw [if_pos (show N - L.length < m by rw [HL.out]; exact hbad)] at this; exact this.symm))
          · have hbadI : ¬ (N : Int) - (k : Int) < (m : Int) := by omega
            go_wp2_with (first
              | (go_at_call 118; refine (HND.out _).mono ?_; rintro e w5 ⟨rfl, rfl⟩)
              | (go_at_call 109; refine (srcTake_ways nn HP4.out.S HO2.out HP4.out.L HB.out.1 yr).mono ?_; rintro e w5 ⟨y5, l5, yok5, yb5, t5, hor⟩; have hyb5 : (z : Int) ≤ y5.bytes := (by rw [yb5]; exact HB.out.2); have X5 : CodAt w5 cx last seen := ⟨HP4.out.keepT HX4.out.1 t5 (by decide) (by decide), HX4.out.2⟩; have HB5 := Lib.hid (And.intro yok5 hyb5); clear yok5 hyb5 yb5; rcases hor with ⟨kk, aa, rfl, s5, nr, nrun⟩ | ⟨rfl, s5, yr5, ha5, hw5⟩; all_goals (have P5 := HP4.out.take t5 s5 l5; clear s5 l5 t5))
              | (go_at_call 119; refine (HST.out _ (s.extract (a + 1) (a + 1 + nn)) X5 (fun _ => by rw [← HA2.out]) (by have := HA2.out; omega)).mono ?_; rintro e w7 ⟨rfl, b7⟩; unfold Qc.v; have P7 := P5.below b7; have X8 : CodAt w7 cx last seen := ⟨Blk.below X5.1 b7 (Blk.lt X5.1), X5.2⟩; have P8 : PixI w w7 p g r b d f 0 s.size a2 W H s (pixL L z) y5 := (HA2.out ▸ P7); have Y8 : Hid (y5.Ok ∧ (z : Int) ≤ y5.bytes ∧ y5.reason = 0) := Lib.hid ⟨HB5.out.1, HB5.out.2, yr5⟩; have hrun8 := (run_work_yes hw5).symm.trans HRUN1.out; rw [if_pos (show a2 ≤ s.size by have := HA2.out; omega)] at hrun8; have HRUN8 := Lib.hid hrun8; clear hrun8)
              | (go_at_call 51; have Q9 : QB (w7.alloc (.cells #[.int .u8 (c.r.toNat : Int), .int .u8 (c.g.toNat : Int), .int .u8 (c.b.toNat : Int), .int .u8 (c.a.toNat : Int)] 67)) w7.heap.size c := Blk.new _ _ _; have X9 : CodAt (w7.alloc (.cells #[.int .u8 (c.r.toNat : Int), .int .u8 (c.g.toNat : Int), .int .u8 (c.b.toNat : Int), .int .u8 (c.a.toNat : Int)] 67)) cx last seen := ⟨Blk.alloc X8.1 _, X8.2⟩; have P9 := P8.alloc (.cells #[.int .u8 (c.r.toNat : Int), .int .u8 (c.g.toNat : Int), .int .u8 (c.b.toNat : Int), .int .u8 (c.a.toNat : Int)] 67); have nq9 : w.heap.size ≤ w7.heap.size := P8.T.size; refine (qoiNote X9 rfl).mono ?_; rintro e w9 ⟨rfl, x9, t9⟩; have P10 := P9.own X9.1 HI0.out t9 (by decide) (by decide) (by decide) (by decide) (by decide) (by decide); have Q10 : QB w9 w7.heap.size c := Blk.turn Q9 t9 (by simpa using Blk.ne_ Q9 X9.1 (by decide)))
              | (go_at_call 59; refine (srcFault_is 5 P5.S P5.L nr).mono ?_; rintro e w9 ⟨rfl, b9⟩; have P9 := P5.below b9; obtain ⟨c0, c1, c2, z0, z1, z2, fl⟩ := FB.all P9.F))
            · rw [Exit.noGoto_ret]
              exact bodyPost_ret (v := .agg #[.int .i64 (kk : Int), .int .i64 5, .int .i64 (aa : Int)]) (by simp [results, Tryz.results60, go_sem, c0, c1, c2]) rfl (QpI.bad P9 h4L.out HB5.out.1 HB5.out.2 nr.ne (HRUN1.out.symm.trans (by have h := nrun; unfold NoRun at h; rw [HA2.out] at h; exact h _ _)))
            · have I10 : Hid (∃ x, PixI w w9 p g r b d f 0 s.size a2 W H s (pixL (L ++ List.replicate 0 c) z) x ∧ CodAt w9 cx c (seen.set (qplace c) c) ∧ QB w9 w7.heap.size c ∧ x.Ok ∧ x.reason = 0 ∧ (z : Int) ≤ x.bytes ∧ (works z a2 K m).run x = D) := Lib.hid ⟨y5, by rw [List.replicate_zero, List.append_nil]; exact P10, x9, Q10, Y8.out.1, Y8.out.2.2, Y8.out.2.1, by have := HRUN8.out; rw [if_neg (show ¬ N - L.length < m by rw [HL.out]; exact hbad)] at this; exact this⟩
              have HK : Hid (K = qoiPix s W H N z fu a2 c (seen.set (qplace c) c) (L ++ List.replicate m c)) := Lib.hid KE.out
              have HMN : Hid (k + m ≤ N) := Lib.hid (by omega)
              have HA9 : Hid (a2 ≤ s.size) := Lib.hid (by have := HA2.out; omega)
              generalize w7.heap.size = qb at I10 nq9 ⊢
              clear P10 Q10 x9 t9 HRUN8 Y8 P8 X8 P9 X9 Q9 HST HND HP4 HX4 HRUN1 HB HO2 HI HO b7 hbad hbadI
              go_loopg [7, 67] m (fun gh v7 v67 wr => ∃ i m', m' = gh ∧ i + m' = m ∧ v67 = .int .i64 (i : Int) ∧ v7 = .int .i64 ((k + i : Nat) : Int) ∧ Hid (∃ x, PixI w wr p g r b d f 0 s.size a2 W H s (pixL (L ++ List.replicate i c) z) x ∧ CodAt wr cx c (seen.set (qplace c) c) ∧ QB wr qb c ∧ x.Ok ∧ x.reason = 0 ∧ (z : Int) ≤ x.bytes ∧ (works z a2 K m').run x = D))
              case atStart => exact ⟨0, m, rfl, by omega, rfl, rfl, I10⟩
              case round =>
                obtain ⟨i, m', hm', hi, rfl, rfl, hJ⟩ := hrel
                clear I10
                obtain ⟨x, P, X, Q, ok, hx, hb, hrun⟩ := hJ.out
                have HJ := Lib.hid (And.intro P (And.intro X Q))
                have HJ2 := Lib.hid (And.intro ok (And.intro hx hb))
                have HRUN := Lib.hid hrun
                clear P X Q ok hx hb hrun hJ
                by_cases hlt : i < m
                · have hltI : (i : Int) < (m : Int) := by omega
                  obtain ⟨m'', rfl⟩ : ∃ n, m' = n + 1 := ⟨m' - 1, by omega⟩
                  obtain ⟨j, hj⟩ : ∃ j, k + i = j := ⟨_, rfl⟩
                  rw [hj]
                  obtain ⟨X, hX⟩ : ∃ X, j % W = X := ⟨_, rfl⟩
                  obtain ⟨Y, hY⟩ : ∃ Y, j / W = Y := ⟨_, rfl⟩
                  have hW0 : 0 < W := HW.out.1
                  have hjN : j < N := by have := HMN.out; omega
                  have hXW : X < W := by rw [← hX]; exact Nat.mod_lt _ hW0
                  have hYW : Y * W + X = j := by rw [← hX, ← hY, Nat.mul_comm]; exact Nat.div_add_mod j W
                  have hYH : Y < H := by rw [← hY]; exact (Nat.div_lt_iff_lt_mul hW0).2 (by rw [Nat.mul_comm, HN.out]; exact hjN)
                  have hWne : ¬ (W : Int) = 0 := by omega
                  have hWn : ¬ W = 0 := by omega
                  have hwY : IntKind.i64.wrap (Y : Int) = (Y : Int) := IntWalk.i64_in (Y : Int) (by have := HH.out; omega)
                  have e1 : (j : Int) % (W : Int) = (X : Int) := by rw [← hX]; exact (Int.natCast_emod j W).symm
                  have e2 : (j : Int) / (W : Int) = (Y : Int) := by rw [← hY]; exact (Int.natCast_ediv j W).symm
                  have e3 : (j : Int).tmod (W : Int) = (X : Int) := by rw [Int.tmod_eq_emod_of_nonneg (Int.natCast_nonneg _)]; exact e1
                  have e4 : (j : Int).tdiv (W : Int) = (Y : Int) := by rw [Int.tdiv_eq_ediv_of_nonneg (Int.natCast_nonneg _)]; exact e2
                  obtain ⟨pr, hpr⟩ : ∃ pr, Y * W = pr := ⟨_, rfl⟩
                  have HPR := Lib.hid hpr
                  have HI4 : Hid (4 * (pr + X) = 4 * j) := Lib.hid (by rw [← hpr, hYW])
                  have hprb : Hid (pr ≤ 1073741824) := Lib.hid (by rw [← hpr]; have := HN1.out; omega)
                  have hLl : (L ++ List.replicate i c).length = j := by rw [List.length_append, List.length_replicate, HL.out, hj]
                  have HLL := Lib.hid hLl
                  have HL4 : Hid (4 * j + 4 ≤ (pixL (L ++ List.replicate i c) z).length) := Lib.hid (by rw [pixL_len (by have := HZ.out; omega)]; have := HZ.out; omega)
                  have HLS : Hid ((pixL (L ++ List.replicate i c) z).length ≤ 1099511627776) := Lib.hid (by rw [pixL_len (by have := HZ.out; omega)]; have := HZ.out; have := HN1.out; omega)
                  have hjI : (j : Int) ≤ 268435456 := by omega
                  have HJN := Lib.hid hjN
                  have HJE := Lib.hid hj
                  have HIM := Lib.hid hi
                  obtain ⟨q0, q1, q2, q3, ql⟩ := QB.all HJ.out.2.2
                  clear hX hY hYW hpr hLl hj hi
                  go_wp2_with fail
                  refine wp_region_held_drew (S := (fun w' => w'.cell? ⟨qb, 0, none⟩ = some (.int .u8 (c.r.toNat : Int)) ∧ w'.cell? ⟨qb, 1, none⟩ = some (.int .u8 (c.g.toNat : Int)) ∧ w'.cell? ⟨qb, 2, none⟩ = some (.int .u8 (c.b.toNat : Int)) ∧ w'.cell? ⟨qb, 3, none⟩ = some (.int .u8 (c.a.toNat : Int)))) (by kernel_rfl) ⟨q0, q1, q2, q3⟩ (fun hHeld => ?_)
                  refine wpAnyH_take (i := 0) (v := ?_) rfl (by kernel_rfl) (by kernel_rfl) (by kernel_rfl) (fun _ _ _ h => h) (Or.inl ⟨by kernel_rfl, ?_⟩) (by assumption) ?_
                  rotate_left
                  · intro w hSw; (try dsimp only at hSw); go_simp; (try with_reducible rfl)
                  (try simp only [Act.put, List.setIfInBounds_toArray, List.set_cons_zero, List.set_cons_succ])
                  refine wpAnyH_take (i := 1) (v := ?_) rfl (by kernel_rfl) (by kernel_rfl) (by kernel_rfl) (fun _ _ _ h => h) (Or.inl ⟨by kernel_rfl, ?_⟩) (by assumption) ?_
                  rotate_left
                  · intro w hSw; (try dsimp only at hSw); go_simp; (try with_reducible rfl)
                  (try simp only [Act.put, List.setIfInBounds_toArray, List.set_cons_zero, List.set_cons_succ])
                  refine wpAnyH_take (i := 2) (v := ?_) rfl (by kernel_rfl) (by kernel_rfl) (by kernel_rfl) (fun _ _ _ h => h) (Or.inl ⟨by kernel_rfl, ?_⟩) (by assumption) ?_
                  rotate_left
                  · intro w hSw; (try dsimp only at hSw); go_simp; (try with_reducible rfl)
                  (try simp only [Act.put, List.setIfInBounds_toArray, List.set_cons_zero, List.set_cons_succ])
                  refine wpAnyH_take (i := 5) (v := ?_) rfl (by kernel_rfl) (by kernel_rfl) (by kernel_rfl) (fun _ _ _ h => h) (Or.inl ⟨by kernel_rfl, ?_⟩) (by assumption) ?_
                  rotate_left
                  · intro w hSw; (try dsimp only at hSw); go_simp; (try with_reducible rfl)
                  (try simp only [Act.put, List.setIfInBounds_toArray, List.set_cons_zero, List.set_cons_succ])
                  refine wpAnyH_take (i := 6) (v := ?_) rfl (by kernel_rfl) (by kernel_rfl) (by kernel_rfl) (fun _ _ _ h => h) (Or.inl ⟨by kernel_rfl, ?_⟩) (by assumption) ?_
                  rotate_left
                  · intro w hSw; (try dsimp only at hSw); go_simp; (try with_reducible rfl)
                  (try simp only [Act.put, List.setIfInBounds_toArray, List.set_cons_zero, List.set_cons_succ])
                  refine wpAnyH_take (i := 9) (v := ?_) rfl (by kernel_rfl) (by kernel_rfl) (by kernel_rfl) (fun _ _ _ h => h) (Or.inl ⟨by kernel_rfl, ?_⟩) (by assumption) ?_
                  rotate_left
                  · intro w hSw; (try dsimp only at hSw); go_simp; (try with_reducible rfl)
                  (try simp only [Act.put, List.setIfInBounds_toArray, List.set_cons_zero, List.set_cons_succ])
                  refine wpAnyH_ready (rs := [3]) (by kernel_rfl) (by simp) ?_
                  refine AllReadyH.cons rfl (fun K hK => ?_) AllReadyH.nil
                  go_simp
                  refine (rasWidth_at (Blk.drew HJ.out.1.R)).mono ?_
                  rintro e w11 ⟨rfl, rfl⟩
                  refine hK.out _ _ hHeld (fun hHeld' => ?_)
                  clear hK K hHeld
                  have hHeld := hHeld'
                  clear hHeld'
                  (try simp only [Act.put, List.setIfInBounds_toArray, List.set_cons_zero, List.set_cons_succ])
                  refine wpAnyH_take (i := 4) (v := ?_) rfl (by kernel_rfl) (by kernel_rfl) (by kernel_rfl) (fun _ _ _ h => h) (Or.inl ⟨by kernel_rfl, ?_⟩) (by assumption) ?_
                  rotate_left
                  · intro w hSw; (try dsimp only at hSw); go_simp; (try with_reducible rfl)
                  (try simp only [Act.put, List.setIfInBounds_toArray, List.set_cons_zero, List.set_cons_succ])
                  refine wpAnyH_ready (rs := [7]) (by kernel_rfl) (by simp) ?_
                  refine AllReadyH.cons rfl (fun K hK => ?_) AllReadyH.nil
                  go_simp
                  refine (rasWidth_at (Blk.drew HJ.out.1.R)).mono ?_
                  rintro e w11 ⟨rfl, rfl⟩
                  refine hK.out _ _ hHeld (fun hHeld' => ?_)
                  clear hK K hHeld
                  have hHeld := hHeld'
                  clear hHeld'
                  (try simp only [Act.put, List.setIfInBounds_toArray, List.set_cons_zero, List.set_cons_succ])
                  refine wpAnyH_take (i := 8) (v := ?_) rfl (by kernel_rfl) (by kernel_rfl) (by kernel_rfl) (fun _ _ _ h => h) (Or.inl ⟨by kernel_rfl, ?_⟩) (by assumption) ?_
                  rotate_left
                  · intro w hSw; (try dsimp only at hSw); go_simp; (try with_reducible rfl)
                  (try simp only [Act.put, List.setIfInBounds_toArray, List.set_cons_zero, List.set_cons_succ])
                  refine wpAnyH_ready (rs := [10]) (by kernel_rfl) (by simp) ?_
                  refine AllReadyH.cons rfl (fun K hK => ?_) AllReadyH.nil
                  go_simp
                  refine (rasSet_ways (c0 := c.r) (c1 := c.g) (c2 := c.b) (c3 := c.a) HJ.out.1.drew.R HJ.out.1.drew.B HJ.out.1.drew.L HJ2.out.1 HJ2.out.2.1 hXW hYH HPR.out HI4.out hprb.out HW.out.2 HH.out.2 HL4.out HLS.out).mono ?_
                  rintro e w12 ⟨y', l12, yok', yb', hor⟩
                  have hyb' : (z : Int) ≤ y'.bytes := by rw [yb']; exact HJ2.out.2.2
                  rcases hor with ⟨rfl, t12, yr', hno⟩ | ⟨rfl, t12, b12, yr', hyes⟩
                  · have P12 := HJ.out.1.drew.led t12 l12
                    have Q12 : QB w12 qb c := HJ.out.1.drew.keepG (Blk.drew HJ.out.2.2) t12 (by decide)
                    obtain ⟨p0, p1, p2, p3, pl⟩ := QB.all Q12
                    refine hK.out _ _ ⟨p0, p1, p2, p3⟩ (fun hHeld' => ?_)
                    clear hK K hHeld
                    have hHeld := hHeld'
                    clear hHeld'
                    (try simp only [Act.put, List.setIfInBounds_toArray, List.set_cons_zero, List.set_cons_succ])
                    refine wpAnyH_take (i := 11) (v := ?_) rfl (by kernel_rfl) (by kernel_rfl) (by kernel_rfl) (fun _ _ _ h => h) (Or.inl ⟨by kernel_rfl, ?_⟩) (by assumption) ?_
                    rotate_left
                    · intro w hSw; (try dsimp only at hSw); go_simp; (try with_reducible rfl)
                    (try simp only [Act.put, List.setIfInBounds_toArray, List.set_cons_zero, List.set_cons_succ])
                    refine wpAnyH_done (by kernel_rfl) ?_ _
                    go_wp2_with (go_at_call 59; refine (srcFault_is 5 P12.S P12.L (.inl ⟨yr', rfl, rfl⟩)).mono ?_; rintro e w13 ⟨rfl, b13⟩; have P13 := P12.below b13; obtain ⟨c0, c1, c2, z0, z1, z2, fl⟩ := FB.all P13.F)
                    rw [Exit.noGoto_ret]
                    exact bodyPost_ret (v := .agg #[.int .i64 4, .int .i64 5, .int .i64 (a2 : Int)]) (by simp [results, Tryz.results60, go_sem, c0, c1, c2]) rfl (QpI.bad P13 (by rw [HLL.out]; have := HZ.out; have := HJN.out; omega) yok' hyb' (by decide) (HRUN.out.symm.trans (hno _ _ _)))
                  · have P12 := HJ.out.1.drew.set t12 b12 l12
                    have X12 : CodAt w12 cx c (seen.set (qplace c) c) := ⟨HJ.out.1.drew.keepS (Blk.drew HJ.out.2.1.1) t12 (by decide) (by decide), HJ.out.2.1.2⟩
                    have Q12 : QB w12 qb c := HJ.out.1.drew.keepS (Blk.drew HJ.out.2.2) t12 (by decide) (by decide)
                    obtain ⟨p0, p1, p2, p3, pl⟩ := QB.all Q12
                    refine hK.out _ _ ⟨p0, p1, p2, p3⟩ (fun hHeld' => ?_)
                    clear hK K hHeld
                    have hHeld := hHeld'
                    clear hHeld'
                    (try simp only [Act.put, List.setIfInBounds_toArray, List.set_cons_zero, List.set_cons_succ])
                    refine wpAnyH_take (i := 11) (v := ?_) rfl (by kernel_rfl) (by kernel_rfl) (by kernel_rfl) (fun _ _ _ h => h) (Or.inl ⟨by kernel_rfl, ?_⟩) (by assumption) ?_
                    rotate_left
                    · intro w hSw; (try dsimp only at hSw); go_simp; (try with_reducible rfl)
                    (try simp only [Act.put, List.setIfInBounds_toArray, List.set_cons_zero, List.set_cons_succ])
                    refine wpAnyH_done (by kernel_rfl) ?_ _
                    go_wp2_with fail
                    go_roundg m''
                    case measure => omega
                    case rel =>
                      refine ⟨i + 1, m'', rfl, by have := HIM.out; omega, by go_num, vint (by have := HJE.out; omega), Lib.hid ⟨y', ?_, X12, Q12, yok', yr', hyb', HRUN.out ▸ (hyes _ _ _).symm⟩⟩
                      have e := pixL_next (L := L ++ List.replicate i c) (z := z) c (by rw [HLL.out]; have := HZ.out; have := HJN.out; omega)
                      rw [HLL.out] at e
                      rw [List.replicate_succ', ← List.append_assoc, ← e]
                      exact P12
                · obtain rfl : i = m := by omega
                  obtain rfl : m' = 0 := by omega
                  have hltI : ¬ (i : Int) < (i : Int) := by omega
                  clear hm' hi
                  go_wp2_with fail
                  go_roundg (N - (k + i))
                  case measure => have := HKN.out; omega
                  case rel =>
                    refine ⟨k + i, by have := HMN.out; omega, rfl, Lib.hid ⟨fu, a2, c, seen.set (qplace c) c, L ++ List.replicate i c, x, ⟨HJ.out.1, HJ.out.2.1, HI0.out, HJ2.out.1, HJ2.out.2.1, HJ2.out.2.2, HA9.out⟩, by rw [List.length_append, List.length_replicate, HL.out], by have := HFU.out; omega, by rw [← HK.out]; exact HRUN.out⟩⟩
    · obtain rfl : k = N := by omega
      have hltI : ¬ (k : Int) < (k : Int) := by omega
      rw [qoiPix_zero (by omega)] at hrun
      have HI := Lib.hid I
      have HRUN := Lib.hid hrun
      have HL := Lib.hid hL
      clear I hrun hI hL hfu hk
      obtain ⟨c0, c1, c2, z0, z1, z2, fl⟩ := FB.all HI.out.P.F
      go_wp2_with fail
      exact bodyPost_ret (v := .agg #[.int .i64 0, .int .i64 0, .int .i64 0]) (by simp [results, Tryz.results60, go_sem, c0, c1, c2]) rfl ⟨_, _, HI.out.P.fin (pixL_len (by rw [HL.out]; exact Nat.le_of_eq HZ.out)) HI.out.ok HI.out.bz, .inl ⟨rfl, a, L, HI.out.o, HI.out.P.src, pixL_all (by rw [HL.out]; exact HZ.out), HI.out.rs, HRUN.out⟩⟩
end Go.Proofs.YtojobfnbakiicaaGreat
