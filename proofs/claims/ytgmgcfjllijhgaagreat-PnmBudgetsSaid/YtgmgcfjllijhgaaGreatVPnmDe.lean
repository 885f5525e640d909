/- pnm: a file is decoded. -/
import Derived.Test.YtgmgcfjllijhgaaGreatSq
import Derived.Test.YtgmgcfjllijhgaaGreatVRasRef
import Derived.Test.YtgmgcfjllijhgaaGreatVPnmLp
import Derived.Test.YtgmgcfjllijhgaaGreatVRasWays
namespace Go.Proofs.YtgmgcfjllijhgaaGreat
open Go.RowKit
set_option linter.unusedVariables false
set_option linter.unusedSimpArgs false

theorem szA (w : World) (o : Obj) : (w.alloc o).heap.size = w.heap.size + 1 := by simp
theorem ptextI_any (k : Int) (w : World) : Calls Tryz.prog 51 #[.int .i64 k] w fun e w' => e = .returned (.bool (decide (1 ≤ k ∧ k ≤ 3))) ∧ w = w' := by
 by_cases h1 : 1 ≤ k
 ·by_cases h2 : k ≤ 3
  ·rw [decide_eq_true (And.intro h1 h2)]
   go_enter Tryz.func51, Tryz.ntmps51
   go_wp2_with fail
   go_ret
   exact ⟨ret1 (vbool (by first | rfl | (simp; done) | (simp; omega))), rfl⟩
  ·rw [decide_eq_false (by omega)]
   go_enter Tryz.func51, Tryz.ntmps51
   go_wp2_with fail
   go_ret
   exact ⟨ret1 (vbool (by first | rfl | (simp; done) | (simp; omega))), rfl⟩
 ·rw [decide_eq_false (by omega)]
  go_enter Tryz.func51, Tryz.ntmps51
  go_wp2_with fail
  go_ret
  exact ⟨ret1 (vbool (by first | rfl | (simp; done) | (simp; omega))), rfl⟩
/-- a head is read: what is told, and what is left -/
theorem pnmHeadW {w : World} {p g : Nat} {s : ByteArray} {y : Led} (hsm : s.size ≤ 1099511627776) (S0 : SrcAt w p g s 0 s.size 0) (L0 : LedAt w g y) (ok : y.Ok) (hr : y.reason = 0) :
  Calls Tryz.prog 37 #[.pointer (some ⟨p, 0, none⟩)] w fun e w' => ∃ y1, LedAt w' g y1 ∧ y1.Ok ∧ y1.bytes = y.bytes ∧ Turn [p, g] w w' ∧
   ((∃ kk aa : Nat, kk ≠ 0 ∧ e = .returned (headNo kk aa) ∧ (pnmDec s).run y = (y1, .bad kk aa)) ∨
    (∃ h : HeadR, HeadOk s h ∧ e = .returned (headYes h) ∧ SrcAt w' p g s 0 s.size h.At ∧ y1.reason = 0 ∧ (pnmDec s).run y = (Dec.sides h.W h.H h.At (.take (4 * (h.W * h.H)) h.At (bodyD s h (4 * (h.W * h.H))))).run y1)) := by
 rcases headC (p := p) (g := g) hsm ok hr with ⟨kk, aa, y1, hk, yok, yb, run, c0⟩ | ⟨h, y1, hh, yok, yb, yr, run, c0⟩
 ·refine (c0 w S0 L0).mono ?_
  rintro e w' ⟨rfl, l, t⟩
  refine ⟨y1, l, yok, yb, t, .inl ⟨kk, aa, hk, rfl, ?_⟩⟩
  unfold pnmDec
  refine (run 0 _).trans ?_
  rw [show ((0 : Nat) : Int) = 0 from rfl, give_zero]
 ·refine (c0 w S0 L0).mono ?_
  rintro e w' ⟨rfl, s1, l, t⟩
  exact ⟨y1, l, yok, yb, t, .inr ⟨h, hh, rfl, s1, yr, run 0 _⟩⟩
set_option maxRecDepth 100000 in
set_option maxHeartbeats 4000000 in
theorem pnmDecodeC {w : World} {p g : Nat} {s : ByteArray} {y : Led} (S0 : SrcAt w p g s 0 s.size 0) (L0 : LedAt w g y) (hsm : s.size ≤ 1099511627776) (ok : y.Ok) (hr : y.reason = 0) :
  Calls Tryz.prog 23 #[.pointer (some ⟨p, 0, none⟩)] w fun e w' => DecPost 3 (pnmDec s) y w w' p g e := by
 have F0 := FB.new w
 have S1 : SrcAt (w.alloc (.cells #[.int .i64 0, .int .i64 0, .int .i64 0] 34)) p g s 0 s.size 0 := Blk.alloc S0 _
 have L1 : LedAt (w.alloc (.cells #[.int .i64 0, .int .i64 0, .int .i64 0] 34)) g y := Blk.alloc L0 _
 have T1 : Turn [p, g] w (w.alloc (.cells #[.int .i64 0, .int .i64 0, .int .i64 0] 34)) := (Turn.refl _ _).alloc _
 have hpg : p ≠ g := S0.ne L0
 have nf : w.heap.size ∉ [p, g] := by have := Blk.lt S0; have := Blk.lt L0; simp; omega
 have HB := Lib.hid (pnmHeadW hsm S1 L1 ok hr)
 have HSM := Lib.hid hsm
 have HF := Lib.hid F0
 have HT := Lib.hid T1
 have hsz1 : (w.alloc (.cells #[.int .i64 0, .int .i64 0, .int .i64 0] 34)).heap.size = w.heap.size + 1 := szA _ _
 clear S0 L0 hsm ok hr F0 S1 L1 T1
 go_enter Tryz.func23, Tryz.ntmps23
 go_upto_region 2 with (go_at_call 37; refine HB.out.mono ?_; rintro e w1 ⟨y1, l1, ok1, b1, t1, hor⟩; have F1 := FB.turn HF.out t1 nf; have T2 := HT.out.trans t1; unfold headNo headYes headV5 ftV ft0 at hor; rcases hor with ⟨kk, aa, hk, rfl, hrun⟩ | ⟨h, hok, rfl, s1, yr1, hD⟩; all_goals (try (have hkI : ¬ (kk : Int) = 0 := by omega)))
 ·have hf1 := Blk.lt F1
  have e1 : (w1.alloc (.cells #[.int .i64 0, .int .i64 0, .int .i64 0, .int .i64 0, .int .i64 0] 69)).heap.size = w1.heap.size + 1 := szA _ _
  have F3 : FB ((w1.alloc (.cells #[.int .i64 0, .int .i64 0, .int .i64 0, .int .i64 0, .int .i64 0] 69)).alloc (.cells #[.int .i64 (kk : Int), .int .i64 3, .int .i64 (aa : Int)] 34)) w.heap.size 0 0 0 := Blk.alloc (Blk.alloc F1 _) _
  have G3 : FB ((w1.alloc (.cells #[.int .i64 0, .int .i64 0, .int .i64 0, .int .i64 0, .int .i64 0] 69)).alloc (.cells #[.int .i64 (kk : Int), .int .i64 3, .int .i64 (aa : Int)] 34)) (w1.heap.size + 1) (kk : Int) 3 (aa : Int) := Blk.new_at _ _ _ e1.symm
  have L3 : LedAt ((w1.alloc (.cells #[.int .i64 0, .int .i64 0, .int .i64 0, .int .i64 0, .int .i64 0] 69)).alloc (.cells #[.int .i64 (kk : Int), .int .i64 3, .int .i64 (aa : Int)] 34)) g y1 := Blk.alloc (Blk.alloc l1 _) _
  have T3 := (T2.alloc (.cells #[.int .i64 0, .int .i64 0, .int .i64 0, .int .i64 0, .int .i64 0] 69)).alloc (.cells #[.int .i64 (kk : Int), .int .i64 3, .int .i64 (aa : Int)] 34)
  have k1 : w.heap.size ≠ w1.heap.size + 1 := by omega
  go_upto_region 3 with fail
  generalize (w1.alloc (.cells #[.int .i64 0, .int .i64 0, .int .i64 0, .int .i64 0, .int .i64 0] 69)).alloc (.cells #[.int .i64 (kk : Int), .int .i64 3, .int .i64 (aa : Int)] 34) = w3 at F3 G3 L3 T3 ⊢
  generalize w1.heap.size + 1 = q at G3 k1 ⊢
  have k2 := k1.symm
  have hgf : g ≠ w.heap.size := Blk.ne_ L3 F3 (by decide)
  have HD := Lib.hid (And.intro L3 T3)
  obtain ⟨f0, f1, f2', z0, z1, z2, fl⟩ := FB.all F3
  obtain ⟨g0, g1, g2, o0, o1, o2, gl⟩ := FB.all G3
  clear F1 T2 F3 G3 L3 T3 l1 t1 hf1 e1
  go_region
  go_wp2_with fail
  exact bodyPost_ret (v := .tuple #[.pointer none, .agg #[.int .i64 (kk : Int), .int .i64 3, .int .i64 (aa : Int)]]) (by simp [results, Tryz.results23, go_sem, f0, f1, f2']) rfl ⟨y1, (Blk.st3 HD.out.1 hgf).drew, ok1, (Turn.st3 HD.out.2 (.inr (Nat.le_refl _))).drew, .inl ⟨kk, aa, hk, hrun, rfl⟩⟩
 ·have hf1 := Blk.lt F1
  have e1 : (w1.alloc (.cells #[.int .i64 (h.K : Int), .int .i64 (h.W : Int), .int .i64 (h.H : Int), .int .i64 (h.M : Int), .int .i64 (h.At : Int)] 69)).heap.size = w1.heap.size + 1 := szA _ _
  have F3 : FB ((w1.alloc (.cells #[.int .i64 (h.K : Int), .int .i64 (h.W : Int), .int .i64 (h.H : Int), .int .i64 (h.M : Int), .int .i64 (h.At : Int)] 69)).alloc (.cells #[.int .i64 0, .int .i64 0, .int .i64 0] 34)) w.heap.size 0 0 0 := Blk.alloc (Blk.alloc F1 _) _
  have P3 : Blk ((w1.alloc (.cells #[.int .i64 (h.K : Int), .int .i64 (h.W : Int), .int .i64 (h.H : Int), .int .i64 (h.M : Int), .int .i64 (h.At : Int)] 69)).alloc (.cells #[.int .i64 0, .int .i64 0, .int .i64 0] 34)) w1.heap.size 69 #[.int .i64 (h.K : Int), .int .i64 (h.W : Int), .int .i64 (h.H : Int), .int .i64 (h.M : Int), .int .i64 (h.At : Int)] := Blk.alloc (Blk.new _ _ _) _
  have G3 : FB ((w1.alloc (.cells #[.int .i64 (h.K : Int), .int .i64 (h.W : Int), .int .i64 (h.H : Int), .int .i64 (h.M : Int), .int .i64 (h.At : Int)] 69)).alloc (.cells #[.int .i64 0, .int .i64 0, .int .i64 0] 34)) (w1.heap.size + 1) 0 0 0 := Blk.new_at _ _ _ e1.symm
  have L3 : LedAt ((w1.alloc (.cells #[.int .i64 (h.K : Int), .int .i64 (h.W : Int), .int .i64 (h.H : Int), .int .i64 (h.M : Int), .int .i64 (h.At : Int)] 69)).alloc (.cells #[.int .i64 0, .int .i64 0, .int .i64 0] 34)) g y1 := Blk.alloc (Blk.alloc l1 _) _
  have S3 : SrcAt ((w1.alloc (.cells #[.int .i64 (h.K : Int), .int .i64 (h.W : Int), .int .i64 (h.H : Int), .int .i64 (h.M : Int), .int .i64 (h.At : Int)] 69)).alloc (.cells #[.int .i64 0, .int .i64 0, .int .i64 0] 34)) p g s 0 s.size h.At := Blk.alloc (Blk.alloc s1 _) _
  have T3 := (T2.alloc (.cells #[.int .i64 (h.K : Int), .int .i64 (h.W : Int), .int .i64 (h.H : Int), .int .i64 (h.M : Int), .int .i64 (h.At : Int)] 69)).alloc (.cells #[.int .i64 0, .int .i64 0, .int .i64 0] 34)
  have k1 : w.heap.size ≠ w1.heap.size + 1 := by omega
  have k3 : w.heap.size ≤ w1.heap.size + 1 := by omega
  go_upto_region 4 with fail
  generalize (w1.alloc (.cells #[.int .i64 (h.K : Int), .int .i64 (h.W : Int), .int .i64 (h.H : Int), .int .i64 (h.M : Int), .int .i64 (h.At : Int)] 69)).alloc (.cells #[.int .i64 0, .int .i64 0, .int .i64 0] 34) = w3 at F3 P3 G3 L3 S3 T3 ⊢
  generalize w1.heap.size + 1 = q at G3 k1 k3 ⊢
  generalize w1.heap.size = qp at P3 ⊢
  have k2 := k1.symm
  have HD := Lib.hid hD
  have HH := Lib.hid hok
  have HF3 := Lib.hid F3
  have HP3 := Lib.hid P3
  have HG3 := Lib.hid G3
  have HLS := Lib.hid (And.intro L3 (And.intro S3 T3))
  have HY := Lib.hid (And.intro ok1 (And.intro yr1 (And.intro b1 trivial)))
  have c0 := Blk.cell P3 1
  have c1 := Blk.cell P3 2
  clear F1 T2 F3 P3 G3 L3 S3 T3 l1 s1 t1 hf1 e1 hD hok ok1 yr1 b1
  refine wp_region_held_drew (S := (fun w' => w'.cell? ⟨qp, 1, none⟩ = some (.int .i64 (h.W : Int)) ∧ w'.cell? ⟨qp, 2, none⟩ = some (.int .i64 (h.H : Int)))) (by kernel_rfl) ⟨c0, c1⟩ (fun hHeld => ?_)
  refine tk 0 ?_
  (try simp only [sps])
  refine tk 2 ?_
  (try simp only [sps])
  refine tk 3 ?_
  (try simp only [sps])
  refine tk 4 ?_
  (try simp only [sps])
  refine tk 5 ?_
  (try simp only [sps])
  refine rdy 1 (fun K hK => ?_)
  go_simp
  refine (srcLedger_at (Blk.drew HLS.out.2.1)).mono ?_
  rintro e w4 ⟨rfl, rfl⟩
  refine hK.out _ _ ⟨c0, c1⟩ ?_
  clear hK K hHeld
  intro hHeld
  (try simp only [sps])
  refine rdy 6 (fun K hK => ?_)
  go_simp
  refine (rasNew_ways h.At HH.out.W.1 HH.out.W.2 HH.out.H.1 HH.out.H.2 (Blk.drew HLS.out.1) HY.out.1 HY.out.2.1).mono ?_
  rintro e w5 ⟨y5, l5, ok5, t5, hor⟩
  have F5 : FB w5 w.heap.size 0 0 0 := FB.turn (Blk.drew HF3.out) t5 (by simpa using Blk.ne_ HF3.out HLS.out.1 (by decide))
  have P5 : Blk w5 qp 69 #[.int .i64 (h.K : Int), .int .i64 (h.W : Int), .int .i64 (h.H : Int), .int .i64 (h.M : Int), .int .i64 (h.At : Int)] := Blk.turn (Blk.drew HP3.out) t5 (by simpa using Blk.ne_ HP3.out HLS.out.1 (by decide))
  have G5 : FB w5 q 0 0 0 := FB.turn (Blk.drew HG3.out) t5 (by simpa using Blk.ne_ HG3.out HLS.out.1 (by decide))
  have S5 : SrcAt w5 p g s 0 s.size h.At := Blk.turn (Blk.drew HLS.out.2.1) t5 (by simpa using hpg)
  have T5 := (HLS.out.2.2.drew).trans (t5.mono (S' := [p, g]) (by simp))
  have c0' := Blk.cell P5 1
  have c1' := Blk.cell P5 2
  have hsz5 := t5.size
  rcases hor with ⟨rfl, yr5, hno⟩ | ⟨r, b, d, rfl, hrn, hbn, hdn, R5, B5, yr5, yb5, hyes⟩
  ·refine hK.out _ _ ⟨c0', c1'⟩ (fun hHeld' => ?_)
   clear hK K hHeld
   have hHeld := hHeld'
   clear hHeld'
   (try simp only [sps])
   refine tk 7 ?_
   (try simp only [sps])
   refine tk 8 ?_
   (try simp only [sps])
   refine tk 9 ?_
   (try simp only [sps])
   refine tk 10 ?_
   (try simp only [sps])
   refine tk 11 ?_
   (try simp only [sps])
   refine wpAnyH_done (by kernel_rfl) ?_ _
   (try simp only [sps])
   clear hHeld
   have HN := Lib.hid (And.intro yr5 hno)
   have HS5 := Lib.hid S5
   have HL5 := Lib.hid l5
   have HF5 := Lib.hid F5
   have HT5 := Lib.hid T5
   clear yr5 hno S5 l5 F5 T5 P5 G5 c0 c1 c0' c1' t5 hsz5
   go_wp2_with (go_at_call 50; refine (srcFault_is 3 HS5.out HL5.out (.inl ⟨HN.out.1, rfl, rfl⟩)).mono ?_; rintro e w6 ⟨rfl, b6⟩; have l6 := Blk.below HL5.out b6 (Blk.lt HL5.out); have F6 := FB.below HF5.out b6; have T6 := HT5.out.trans (Turn.of_below (S := [p, g]) b6); obtain ⟨f0, f1, f2', z0, z1, z2, fl⟩ := FB.all F6)
   exact bodyPost_ret (v := .tuple #[.pointer none, .agg #[.int .i64 4, .int .i64 3, .int .i64 (h.At : Int)]]) (by simp [results, Tryz.results23, go_sem, f0, f1, f2']) rfl ⟨y5, Blk.st3 l6 (Blk.ne_ l6 F6 (by decide)), ok5, Turn.st3 T6 (.inr (Nat.le_refl _)), .inl ⟨4, h.At, by decide, by rw [HD.out]; exact HN.out.2 _, rfl⟩⟩
  ·refine hK.out _ _ ⟨c0', c1'⟩ (fun hHeld' => ?_)
   clear hK K hHeld
   have hHeld := hHeld'
   clear hHeld'
   (try simp only [sps])
   refine tk 7 ?_
   (try simp only [sps])
   refine tk 8 ?_
   (try simp only [sps])
   refine tk 9 ?_
   (try simp only [sps])
   refine tk 10 ?_
   (try simp only [sps])
   refine tk 11 ?_
   (try simp only [sps])
   refine wpAnyH_done (by kernel_rfl) ?_ _
   (try simp only [sps])
   clear hHeld
   have hyb : ((4 * (h.W * h.H) : Nat) : Int) ≤ y5.bytes := by rw [yb5]; have := HY.out.1.y0; omega
   by_cases hK : h.K ≤ 3
   ·have HTX := Lib.hid (show ∀ w : World, Calls Tryz.prog 51 #[.int .i64 (h.K : Int)] w fun e w' => e = .returned (.bool true) ∧ w = w' from fun w => by
     have h1 := HH.out.K.1
     have ht := ptextI_any (h.K : Int) w
     rw [decide_eq_true (by omega)] at ht
     exact ht)
    have B5' : BufAt w5 b g d (pixL [] (4 * (h.W * h.H))) := by rw [pixL_nil]; exact B5
    have HX0 := txtReadC HH.out HSM.out hK S5 l5 R5 B5' ok5 yr5
    unfold BodyPost headV5 at HX0
    have HX := Lib.hid HX0
    clear HX0
    have HYE := Lib.hid hyes
    have HYB := Lib.hid (And.intro yb5 hyb)
    have HF5 := Lib.hid F5
    have HG5 := Lib.hid G5
    have HT5 := Lib.hid T5
    have HR5 := Lib.hid (And.intro R5 (And.intro B5 l5))
    have HS5 := Lib.hid S5
    have p0 := Blk.cell P5 0
    have p1 := Blk.cell P5 1
    have p2 := Blk.cell P5 2
    have p3 := Blk.cell P5 3
    have p4 := Blk.cell P5 4
    have hwz : w.heap.size ≤ w3.heap.size := HLS.out.2.2.size
    have hwz5 : w3.heap.size ≤ w5.heap.size := hsz5
    have hrn' : w3.heap.size ≤ r := hrn
    have hbn' : w3.heap.size ≤ b := hbn
    have hdn' : w3.heap.size ≤ d := hdn
    clear hyes yb5 hyb F5 G5 T5 R5 B5 B5' l5 S5 P5 c0 c1 c0' c1' t5 hsz5 hrn hbn hdn
    go_upto_region 11 with (first | (go_at_call 51; refine (HTX.out _).mono ?_; rintro e w9 ⟨rfl, rfl⟩) | (go_at_call 39; refine HX.out.mono ?_; rintro e w6 ⟨y6, lv, l6, ok6, b6, t6, R6, B6, len6, hor⟩; have n1 : w.heap.size ∉ [p, g, d] := (by simp only [List.mem_cons, List.not_mem_nil, or_false, not_or]; exact ⟨Blk.ne_ HF5.out HS5.out (by decide), Blk.ne_ HF5.out HR5.out.2.2 (by decide), Blk.ne_ HF5.out HR5.out.2.1.row (by decide)⟩); have n2 : q ∉ [p, g, d] := (by simp only [List.mem_cons, List.not_mem_nil, or_false, not_or]; exact ⟨Blk.ne_ HG5.out HS5.out (by decide), Blk.ne_ HG5.out HR5.out.2.2 (by decide), Blk.ne_ HG5.out HR5.out.2.1.row (by decide)⟩); have F6 := FB.turn HF5.out t6 n1; have G6 := FB.turn HG5.out t6 n2; have T6 : Turn [p, g] w w6 := HT5.out.next t6 (by intro i hi; simp only [List.mem_cons, List.not_mem_nil, or_false] at hi ⊢; omega); obtain ⟨g0, g1, g2, o0, o1, o2, gl⟩ := FB.all G6; rcases hor with ⟨kk, aa, hk, rfl, hrun⟩ | ⟨rfl, yr6, L6, hL6, hlv, hrun⟩; all_goals (try (have hkI : ¬ (kk : Int) = 0 := by omega))))
    ·generalize hw7 : ((w6.setCell ⟨q, 0, none⟩ (.int .i64 (kk : Int))).setCell ⟨q, 1, none⟩ (.int .i64 3)).setCell ⟨q, 2, none⟩ (.int .i64 (aa : Int)) = w7
     have F7 : FB w7 w.heap.size 0 0 0 := by rw [← hw7]; exact Blk.st3 F6 k1
     have G7 : FB w7 q (kk : Int) 3 (aa : Int) := by rw [← hw7]; exact FB.st3 G6
     have R7 : RasAt w7 r g b (h.W : Int) (h.H : Int) true := by rw [← hw7]; exact Blk.st3 R6 (Blk.ne_ R6 G6 (by decide))
     have B7 : BufAt w7 b g d (lv) := by rw [← hw7]; exact ⟨Blk.st3 B6.blk (Blk.ne_ B6.blk G6 (by decide)), Blk.st3 B6.row (Blk.ne_ B6.row G6 (by decide))⟩
     have L7 : LedAt w7 g y6 := by rw [← hw7]; exact Blk.st3 l6 (Blk.ne_ l6 G6 (by decide))
     have T7 : Turn [p, g] w w7 := by rw [← hw7]; exact Turn.st3 T6 (.inr k3)
     clear hw7 F6 G6 R6 B6 l6 T6 t6 g0 g1 g2 o0 o1 o2 gl p0 p1 p2 p3 p4
     obtain ⟨f0, f1, f2', z0, z1, z2, fl⟩ := FB.all F7
     obtain ⟨g0, g1, g2, o0, o1, o2, gl⟩ := FB.all G7
     have HLZ := Lib.hid (len6)
     have hz : ((4 * (h.W * h.H) : Nat) : Int) ≤ y6.bytes := by rw [b6]; exact HYB.out.2
     have HFR := Lib.hid (rasFree_yes R7 B7 L7 ok6 (give_all (len6) hz))
     have HF7 := Lib.hid F7
     have HG7 := Lib.hid G7
     have nr : ∀ {tt : TypeId} {cs : Array Value} {k : Nat}, Blk w7 k tt cs → tt ≠ 127 → tt ≠ 158 → tt ≠ 103 → k ∉ [r, b, g] := fun hb h1 h2 h3 => by simp only [List.mem_cons, List.not_mem_nil, or_false, not_or]; exact ⟨Blk.ne_ hb R7 h1, Blk.ne_ hb B7.blk h2, Blk.ne_ hb L7 h3⟩
     have nF := nr F7 (by decide) (by decide) (by decide)
     have nG := nr G7 (by decide) (by decide) (by decide)
     have HT7 := Lib.hid T7
     have hrn2 : w.heap.size ≤ r := by omega
     have hbn2 : w.heap.size ≤ b := by omega
     clear nr F7 G7 R7 B7 L7 T7
     go_upto_region 13 with (go_at_call 52; refine HFR.out.mono ?_; rintro e w8 ⟨rfl, r8, b8, l8, t8⟩; clear r8 b8; have F8 := FB.turn HF7.out t8 nF; have G8 := FB.turn HG7.out t8 nG; have T8 : Turn [p, g] w w8 := HT7.out.next t8 (by intro i hi; simp only [List.mem_cons, List.not_mem_nil, or_false] at hi ⊢; omega); clear f0 f1 f2' z0 z1 z2 fl g0 g1 g2 o0 o1 o2 gl; obtain ⟨f0, f1, f2', z0, z1, z2, fl⟩ := FB.all F8; obtain ⟨g0, g1, g2, o0, o1, o2, gl⟩ := FB.all G8)
     have hgf : g ≠ w.heap.size := Blk.ne_ l8 F8 (by decide)
     have HD8 := Lib.hid (And.intro l8 T8)
     clear F8 G8 l8 T8 t8
     go_region
     go_wp2_with fail
     exact bodyPost_ret (v := .tuple #[.pointer none, .agg #[.int .i64 (kk : Int), .int .i64 3, .int .i64 (aa : Int)]]) (by simp [results, Tryz.results23, go_sem, f0, f1, f2']) rfl ⟨_, (Blk.st3 HD8.out.1 hgf).drew, ok6.give _, (Turn.st3 HD8.out.2 (.inr (Nat.le_refl _))).drew, .inl ⟨kk, aa, hk, by rw [HD.out]; exact (HYE.out _).trans (hrun _), rfl⟩⟩
    ·have HLV := Lib.hid hlv
     clear hlv len6 hL6
     generalize hw7 : ((w6.setCell ⟨q, 0, none⟩ (.int .i64 0)).setCell ⟨q, 1, none⟩ (.int .i64 0)).setCell ⟨q, 2, none⟩ (.int .i64 0) = w7
     have F7 : FB w7 w.heap.size 0 0 0 := by rw [← hw7]; exact Blk.st3 F6 k1
     have G7 : FB w7 q 0 0 0 := by rw [← hw7]; exact FB.st3 G6
     have R7 : RasAt w7 r g b (h.W : Int) (h.H : Int) true := by rw [← hw7]; exact Blk.st3 R6 (Blk.ne_ R6 G6 (by decide))
     have B7 : BufAt w7 b g d (lv) := by rw [← hw7]; exact ⟨Blk.st3 B6.blk (Blk.ne_ B6.blk G6 (by decide)), Blk.st3 B6.row (Blk.ne_ B6.row G6 (by decide))⟩
     have L7 : LedAt w7 g y6 := by rw [← hw7]; exact Blk.st3 l6 (Blk.ne_ l6 G6 (by decide))
     have T7 : Turn [p, g] w w7 := by rw [← hw7]; exact Turn.st3 T6 (.inr k3)
     clear hw7 F6 G6 R6 B6 l6 T6 t6 g0 g1 g2 o0 o1 o2 gl p0 p1 p2 p3 p4
     obtain ⟨f0, f1, f2', z0, z1, z2, fl⟩ := FB.all F7
     obtain ⟨g0, g1, g2, o0, o1, o2, gl⟩ := FB.all G7
     have hgf : g ≠ w.heap.size := Blk.ne_ L7 F7 (by decide)
     have hrf : r ≠ w.heap.size := Blk.ne_ R7 F7 (by decide)
     have hbf : b ≠ w.heap.size := Blk.ne_ B7.blk F7 (by decide)
     have hdf : d ≠ w.heap.size := Blk.ne_ B7.row F7 (by decide)
     have HD8 := Lib.hid (And.intro L7 (And.intro T7 (And.intro R7 B7)))
     clear F7 G7 R7 B7 L7 T7
     go_wp2_with fail
     exact bodyPost_ret (v := .tuple #[.pointer (some ⟨r, 0, none⟩), .agg #[.int .i64 0, .int .i64 0, .int .i64 0]]) (by simp [results, Tryz.results23, go_sem, f0, f1, f2']) rfl ⟨y6, Blk.st3 HD8.out.1 hgf, ok6, Turn.st3 HD8.out.2.1 (.inr (Nat.le_refl _)), .inr ⟨h.W, h.H, lv, r, b, d, by rw [HD.out, HLV.out]; exact (HYE.out _).trans (hrun _), rfl, Blk.st3 HD8.out.2.2.1 hrf, ⟨Blk.st3 HD8.out.2.2.2.blk hbf, Blk.st3 HD8.out.2.2.2.row hdf⟩, by omega, by omega, by omega⟩⟩
   ·have HTX := Lib.hid (show ∀ w : World, Calls Tryz.prog 51 #[.int .i64 (h.K : Int)] w fun e w' => e = .returned (.bool false) ∧ w = w' from fun w => by
     have h1 := HH.out.K.1
     have ht := ptextI_any (h.K : Int) w
     rw [decide_eq_false (by omega)] at ht
     exact ht)
    have B5' : BufAt w5 b g d (pixL [] (4 * (h.W * h.H))) := by rw [pixL_nil]; exact B5
    have HX0 := rawReadC HH.out HSM.out hK S5 l5 R5 B5' ok5 yr5
    unfold BodyPost headV5 at HX0
    have HX := Lib.hid HX0
    clear HX0
    have HYE := Lib.hid hyes
    have HYB := Lib.hid (And.intro yb5 hyb)
    have HF5 := Lib.hid F5
    have HG5 := Lib.hid G5
    have HT5 := Lib.hid T5
    have HR5 := Lib.hid (And.intro R5 (And.intro B5 l5))
    have HS5 := Lib.hid S5
    have p0 := Blk.cell P5 0
    have p1 := Blk.cell P5 1
    have p2 := Blk.cell P5 2
    have p3 := Blk.cell P5 3
    have p4 := Blk.cell P5 4
    have hwz : w.heap.size ≤ w3.heap.size := HLS.out.2.2.size
    have hwz5 : w3.heap.size ≤ w5.heap.size := hsz5
    have hrn' : w3.heap.size ≤ r := hrn
    have hbn' : w3.heap.size ≤ b := hbn
    have hdn' : w3.heap.size ≤ d := hdn
    clear hyes yb5 hyb F5 G5 T5 R5 B5 B5' l5 S5 P5 c0 c1 c0' c1' t5 hsz5 hrn hbn hdn
    go_upto_region 11 with (first | (go_at_call 51; refine (HTX.out _).mono ?_; rintro e w9 ⟨rfl, rfl⟩) | (go_at_call 46; refine HX.out.mono ?_; rintro e w6 ⟨y6, lv, l6, ok6, b6, t6, R6, B6, len6, hor⟩; have n1 : w.heap.size ∉ [p, g, d] := (by simp only [List.mem_cons, List.not_mem_nil, or_false, not_or]; exact ⟨Blk.ne_ HF5.out HS5.out (by decide), Blk.ne_ HF5.out HR5.out.2.2 (by decide), Blk.ne_ HF5.out HR5.out.2.1.row (by decide)⟩); have n2 : q ∉ [p, g, d] := (by simp only [List.mem_cons, List.not_mem_nil, or_false, not_or]; exact ⟨Blk.ne_ HG5.out HS5.out (by decide), Blk.ne_ HG5.out HR5.out.2.2 (by decide), Blk.ne_ HG5.out HR5.out.2.1.row (by decide)⟩); have F6 := FB.turn HF5.out t6 n1; have G6 := FB.turn HG5.out t6 n2; have T6 : Turn [p, g] w w6 := HT5.out.next t6 (by intro i hi; simp only [List.mem_cons, List.not_mem_nil, or_false] at hi ⊢; omega); obtain ⟨g0, g1, g2, o0, o1, o2, gl⟩ := FB.all G6; rcases hor with ⟨kk, aa, hk, rfl, hrun⟩ | ⟨rfl, yr6, L6, hL6, hlv, hrun⟩; all_goals (try (have hkI : ¬ (kk : Int) = 0 := by omega))))
    ·generalize hw7 : ((w6.setCell ⟨q, 0, none⟩ (.int .i64 (kk : Int))).setCell ⟨q, 1, none⟩ (.int .i64 3)).setCell ⟨q, 2, none⟩ (.int .i64 (aa : Int)) = w7
     have F7 : FB w7 w.heap.size 0 0 0 := by rw [← hw7]; exact Blk.st3 F6 k1
     have G7 : FB w7 q (kk : Int) 3 (aa : Int) := by rw [← hw7]; exact FB.st3 G6
     have R7 : RasAt w7 r g b (h.W : Int) (h.H : Int) true := by rw [← hw7]; exact Blk.st3 R6 (Blk.ne_ R6 G6 (by decide))
     have B7 : BufAt w7 b g d (lv) := by rw [← hw7]; exact ⟨Blk.st3 B6.blk (Blk.ne_ B6.blk G6 (by decide)), Blk.st3 B6.row (Blk.ne_ B6.row G6 (by decide))⟩
     have L7 : LedAt w7 g y6 := by rw [← hw7]; exact Blk.st3 l6 (Blk.ne_ l6 G6 (by decide))
     have T7 : Turn [p, g] w w7 := by rw [← hw7]; exact Turn.st3 T6 (.inr k3)
     clear hw7 F6 G6 R6 B6 l6 T6 t6 g0 g1 g2 o0 o1 o2 gl p0 p1 p2 p3 p4
     obtain ⟨f0, f1, f2', z0, z1, z2, fl⟩ := FB.all F7
     obtain ⟨g0, g1, g2, o0, o1, o2, gl⟩ := FB.all G7
     have HLZ := Lib.hid (len6)
     have hz : ((4 * (h.W * h.H) : Nat) : Int) ≤ y6.bytes := by rw [b6]; exact HYB.out.2
     have HFR := Lib.hid (rasFree_yes R7 B7 L7 ok6 (give_all (len6) hz))
     have HF7 := Lib.hid F7
     have HG7 := Lib.hid G7
     have nr : ∀ {tt : TypeId} {cs : Array Value} {k : Nat}, Blk w7 k tt cs → tt ≠ 127 → tt ≠ 158 → tt ≠ 103 → k ∉ [r, b, g] := fun hb h1 h2 h3 => by simp only [List.mem_cons, List.not_mem_nil, or_false, not_or]; exact ⟨Blk.ne_ hb R7 h1, Blk.ne_ hb B7.blk h2, Blk.ne_ hb L7 h3⟩
     have nF := nr F7 (by decide) (by decide) (by decide)
     have nG := nr G7 (by decide) (by decide) (by decide)
     have HT7 := Lib.hid T7
     have hrn2 : w.heap.size ≤ r := by omega
     have hbn2 : w.heap.size ≤ b := by omega
     clear nr F7 G7 R7 B7 L7 T7
     go_upto_region 13 with (go_at_call 52; refine HFR.out.mono ?_; rintro e w8 ⟨rfl, r8, b8, l8, t8⟩; clear r8 b8; have F8 := FB.turn HF7.out t8 nF; have G8 := FB.turn HG7.out t8 nG; have T8 : Turn [p, g] w w8 := HT7.out.next t8 (by intro i hi; simp only [List.mem_cons, List.not_mem_nil, or_false] at hi ⊢; omega); clear f0 f1 f2' z0 z1 z2 fl g0 g1 g2 o0 o1 o2 gl; obtain ⟨f0, f1, f2', z0, z1, z2, fl⟩ := FB.all F8; obtain ⟨g0, g1, g2, o0, o1, o2, gl⟩ := FB.all G8)
     have hgf : g ≠ w.heap.size := Blk.ne_ l8 F8 (by decide)
     have HD8 := Lib.hid (And.intro l8 T8)
     clear F8 G8 l8 T8 t8
     go_region
     go_wp2_with fail
     exact bodyPost_ret (v := .tuple #[.pointer none, .agg #[.int .i64 (kk : Int), .int .i64 3, .int .i64 (aa : Int)]]) (by simp [results, Tryz.results23, go_sem, f0, f1, f2']) rfl ⟨_, (Blk.st3 HD8.out.1 hgf).drew, ok6.give _, (Turn.st3 HD8.out.2 (.inr (Nat.le_refl _))).drew, .inl ⟨kk, aa, hk, by rw [HD.out]; exact (HYE.out _).trans (hrun _), rfl⟩⟩
    ·have HLV := Lib.hid hlv
     clear hlv len6 hL6
     generalize hw7 : ((w6.setCell ⟨q, 0, none⟩ (.int .i64 0)).setCell ⟨q, 1, none⟩ (.int .i64 0)).setCell ⟨q, 2, none⟩ (.int .i64 0) = w7
     have F7 : FB w7 w.heap.size 0 0 0 := by rw [← hw7]; exact Blk.st3 F6 k1
     have G7 : FB w7 q 0 0 0 := by rw [← hw7]; exact FB.st3 G6
     have R7 : RasAt w7 r g b (h.W : Int) (h.H : Int) true := by rw [← hw7]; exact Blk.st3 R6 (Blk.ne_ R6 G6 (by decide))
     have B7 : BufAt w7 b g d (lv) := by rw [← hw7]; exact ⟨Blk.st3 B6.blk (Blk.ne_ B6.blk G6 (by decide)), Blk.st3 B6.row (Blk.ne_ B6.row G6 (by decide))⟩
     have L7 : LedAt w7 g y6 := by rw [← hw7]; exact Blk.st3 l6 (Blk.ne_ l6 G6 (by decide))
     have T7 : Turn [p, g] w w7 := by rw [← hw7]; exact Turn.st3 T6 (.inr k3)
     clear hw7 F6 G6 R6 B6 l6 T6 t6 g0 g1 g2 o0 o1 o2 gl p0 p1 p2 p3 p4
     obtain ⟨f0, f1, f2', z0, z1, z2, fl⟩ := FB.all F7
     obtain ⟨g0, g1, g2, o0, o1, o2, gl⟩ := FB.all G7
     have hgf : g ≠ w.heap.size := Blk.ne_ L7 F7 (by decide)
     have hrf : r ≠ w.heap.size := Blk.ne_ R7 F7 (by decide)
     have hbf : b ≠ w.heap.size := Blk.ne_ B7.blk F7 (by decide)
     have hdf : d ≠ w.heap.size := Blk.ne_ B7.row F7 (by decide)
     have HD8 := Lib.hid (And.intro L7 (And.intro T7 (And.intro R7 B7)))
     clear F7 G7 R7 B7 L7 T7
     go_wp2_with fail
     exact bodyPost_ret (v := .tuple #[.pointer (some ⟨r, 0, none⟩), .agg #[.int .i64 0, .int .i64 0, .int .i64 0]]) (by simp [results, Tryz.results23, go_sem, f0, f1, f2']) rfl ⟨y6, Blk.st3 HD8.out.1 hgf, ok6, Turn.st3 HD8.out.2.1 (.inr (Nat.le_refl _)), .inr ⟨h.W, h.H, lv, r, b, d, by rw [HD.out, HLV.out]; exact (HYE.out _).trans (hrun _), rfl, Blk.st3 HD8.out.2.2.1 hrf, ⟨Blk.st3 HD8.out.2.2.2.blk hbf, Blk.st3 HD8.out.2.2.2.row hdf⟩, by omega, by omega, by omega⟩⟩
end Go.Proofs.YtgmgcfjllijhgaaGreat
