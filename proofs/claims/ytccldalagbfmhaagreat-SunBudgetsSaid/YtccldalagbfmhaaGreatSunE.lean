/- sun: the next byte of packets, the third way. -/
import Derived.Test.YtccldalagbfmhaaGreatSunC
namespace Go.Proofs.YtccldalagbfmhaaGreat
open Go.RowKit
set_option linter.unusedVariables false
set_option linter.unusedSimpArgs false
set_option maxHeartbeats 4000000

section
variable {s : ByteArray} {h : SunHd} {lv : Value} {z : Nat}
set_option maxRecDepth 100000 in
theorem sunPacked_three {w : World} {p g x : Nat} {t : SunSt} {y : Led} (hsm : s.size ≤ 1099511627776) (S0 : SrcAt w p g s 0 s.size t.a) (L0 : LedAt w g y) (X0 : SunX w p x h lv 139 t) (tok : t.Ok s) (ok : y.Ok) (hr : y.reason = 0) (ha : ¬ 0 < t.again) (hv : bat s t.a = 128) (hn : bat s (t.a + 1) ≠ 0) :
    Calls Tryz.prog 139 #[.pointer (some ⟨x, 0, none⟩)] w fun e w' => NextPost w w' p g x s h lv 139 true z t y e := by
  have F0 := FB.new w
  have S1 : SrcAt (w.alloc (.cells #[.int .i64 0, .int .i64 0, .int .i64 0] 31)) p g s 0 s.size t.a := Blk.alloc S0 _
  have L1 : LedAt (w.alloc (.cells #[.int .i64 0, .int .i64 0, .int .i64 0] 31)) g y := Blk.alloc L0 _
  have X1 : SunX (w.alloc (.cells #[.int .i64 0, .int .i64 0, .int .i64 0] 31)) p x h lv 139 t := Blk.alloc X0 _
  have T1 : Turn [p, g, x] w (w.alloc (.cells #[.int .i64 0, .int .i64 0, .int .i64 0] 31)) := (Turn.refl _ _).alloc _
  have nf : w.heap.size ∉ [p, g] := by have := Blk.lt S0; have := Blk.lt L0; simp; omega
  have nx : x ∉ [p, g] := by simp only [List.mem_cons, List.not_mem_nil, or_false, not_or]; exact ⟨Blk.ne_ X0 S0 (by decide), Blk.ne_ X0 L0 (by decide)⟩
  obtain ⟨x0, x1, x3, x4, x6, x7, x8, x9, x10, xl⟩ := SunX.all X1
  have hxf : x ≠ w.heap.size := Nat.ne_of_lt (Blk.lt X0)
  have hpf : p ≠ w.heap.size := Nat.ne_of_lt (Blk.lt S0)
  have hgf : g ≠ w.heap.size := Nat.ne_of_lt (Blk.lt L0)
  have hfx := hxf.symm
  have hpx : p ≠ x := Blk.ne_ S0 X0 (by decide)
  have hgx : g ≠ x := Blk.ne_ L0 X0 (by decide)
  have hnf : w.heap.size ≤ w.heap.size := Nat.le_refl _
  have HO := Lib.hid tok
  have HF := Lib.hid F0
  have HT := Lib.hid T1
  have HS := Lib.hid S1
  have HL := Lib.hid L1
  have HK := Lib.hid ok
  have HR := Lib.hid hr
  have HX := Lib.hid X1
  obtain ⟨f0, f1, f2', z0, z1, z2, fl⟩ := FB.all F0
  have haI : ¬ (0 : Int) < (t.again : Int) := by omega
  have hvI : (bat s t.a : Int) = 128 := by omega
  have hnI : ¬ (bat s (t.a + 1) : Int) = 0 := by omega
  clear S0 L0 X0 F0 S1 L1 X1 T1 ok hr tok
  go_enter Tryz.func139, Tryz.ntmps139
  go_wp2_with (first
    | (go_at_call 138; refine (sunPlain (a := t.a + 2) S4 hsm hle4 m4 ok4 yr4 q4).mono ?_; rintro e w6 ⟨y6, l6, ok6, b6, t6, hor⟩; have F6 := FB.turn r4 t6 nf; have X6 : SunX w6 p x h lv 139 t := Blk.turn q4 t6 nx; have q6 : SunX (st3 w6 w.heap.size (.int .i64 0) (.int .i64 0) (.int .i64 0)) p x h lv 139 t := Blk.st3 X6 hxf; have zx8 := Blk.frozen X6 8; have zx9 := Blk.frozen X6 9; have zx10 := Blk.frozen X6 10; have r6 : FB (st3 w6 w.heap.size (.int .i64 0) (.int .i64 0) (.int .i64 0)) w.heap.size 0 0 0 := FB.st3 F6; have m6 : LedAt (st3 w6 w.heap.size (.int .i64 0) (.int .i64 0) (.int .i64 0)) g y6 := Blk.st3 l6 hgf; clear x0 x1 x3 x4 x6 x7 x8 x9 x10 xl f0 f1 f2' z0 z1 z2 fl; obtain ⟨x0, x1, x3, x4, x6, x7, x8, x9, x10, xl⟩ := SunX.all X6; obtain ⟨f0, f1, f2', z0, z1, z2, fl⟩ := FB.all F6; simp only [fltV, flt0] at hor; rcases hor with ⟨k6, a6, hk6, rfl, s6, nr6⟩ | ⟨rfl, s6, yr6, hle6, hw6⟩; all_goals (try (have hkI6 : ¬ (k6 : Int) = 0 := by omega)); all_goals (try (have S6 : SrcAt (st3 w6 w.heap.size (.int .i64 0) (.int .i64 0) (.int .i64 0)) p g s 0 s.size (t.a + 2 + 1) := Blk.st3 s6 hpf)))
    | (go_at_call 138; refine (sunPlain (a := t.a + 1) S2 hsm hle2 m2 ok2 yr2 q2).mono ?_; rintro e w4 ⟨y4, l4, ok4, b4, t4, hor⟩; have F4 := FB.turn r2 t4 nf; have X4 : SunX w4 p x h lv 139 t := Blk.turn q2 t4 nx; have q4 : SunX (st3 w4 w.heap.size (.int .i64 0) (.int .i64 0) (.int .i64 0)) p x h lv 139 t := Blk.st3 X4 hxf; have r4 : FB (st3 w4 w.heap.size (.int .i64 0) (.int .i64 0) (.int .i64 0)) w.heap.size 0 0 0 := FB.st3 F4; have m4 : LedAt (st3 w4 w.heap.size (.int .i64 0) (.int .i64 0) (.int .i64 0)) g y4 := Blk.st3 l4 hgf; clear x0 x1 x3 x4 x6 x7 x8 x9 x10 xl f0 f1 f2' z0 z1 z2 fl; obtain ⟨x0, x1, x3, x4, x6, x7, x8, x9, x10, xl⟩ := SunX.all X4; obtain ⟨f0, f1, f2', z0, z1, z2, fl⟩ := FB.all F4; simp only [fltV, flt0] at hor; rcases hor with ⟨k4, a4, hk4, rfl, s4, nr4⟩ | ⟨rfl, s4, yr4, hle4, hw4⟩; all_goals (try (have hkI4 : ¬ (k4 : Int) = 0 := by omega)); all_goals (try (have S4 : SrcAt (st3 w4 w.heap.size (.int .i64 0) (.int .i64 0) (.int .i64 0)) p g s 0 s.size (t.a + 1 + 1) := Blk.st3 s4 hpf)))
    | (go_at_call 138; refine (sunPlain (a := t.a) HS.out hsm HO.out.a HL.out HK.out HR.out HX.out).mono ?_; rintro e w2 ⟨y2, l2, ok2, b2, t2, hor⟩; have F2 := FB.turn HF.out t2 nf; have X2 : SunX w2 p x h lv 139 t := Blk.turn HX.out t2 nx; have q2 : SunX (st3 w2 w.heap.size (.int .i64 0) (.int .i64 0) (.int .i64 0)) p x h lv 139 t := Blk.st3 X2 hxf; have r2 : FB (st3 w2 w.heap.size (.int .i64 0) (.int .i64 0) (.int .i64 0)) w.heap.size 0 0 0 := FB.st3 F2; have m2 : LedAt (st3 w2 w.heap.size (.int .i64 0) (.int .i64 0) (.int .i64 0)) g y2 := Blk.st3 l2 hgf; clear x0 x1 x3 x4 x6 x7 x8 x9 x10 xl f0 f1 f2' z0 z1 z2 fl; obtain ⟨x0, x1, x3, x4, x6, x7, x8, x9, x10, xl⟩ := SunX.all X2; obtain ⟨f0, f1, f2', z0, z1, z2, fl⟩ := FB.all F2; simp only [fltV, flt0] at hor; rcases hor with ⟨k2, a2, hk2, rfl, s2, nr2⟩ | ⟨rfl, s2, yr2, hle2, hw2⟩; all_goals (try (have hkI2 : ¬ (k2 : Int) = 0 := by omega)); all_goals (try (have S2 : SrcAt (st3 w2 w.heap.size (.int .i64 0) (.int .i64 0) (.int .i64 0)) p g s 0 s.size (t.a + 1) := Blk.st3 s2 hpf))))
  · generalize hw9 : ((w2.setCell ⟨w.heap.size, 0, none⟩ (.int .i64 (k2 : Int))).setCell ⟨w.heap.size, 1, none⟩ (.int .i64 8)).setCell ⟨w.heap.size, 2, none⟩ (.int .i64 (a2 : Int)) = w9
    have F9 : FB w9 w.heap.size (k2 : Int) 8 (a2 : Int) := by rw [← hw9]; exact FB.st3 F2
    have S9 : SrcAt w9 p g s 0 s.size t.a := by rw [← hw9]; exact Blk.st3 s2 hpf
    have L9 : LedAt w9 g y2 := by rw [← hw9]; exact Blk.st3 l2 hgf
    have X9 : SunX w9 p x h lv 139 t := by rw [← hw9]; exact Blk.st3 X2 hxf
    have T9 : Turn [p, g, x] w w9 := by rw [← hw9]; exact Turn.st3 (HT.out.trans (t2.mono (by simp))) (.inr hnf)
    have HD := Lib.hid (And.intro X9 (And.intro S9 (And.intro L9 T9)))
    clear x0 x1 x3 x4 x6 x7 x8 x9 x10 xl f0 f1 f2' z0 z1 z2 fl X9 S9 L9 T9 hw9
    obtain ⟨f0, f1, f2', z0, z1, z2, fl⟩ := FB.all F9
    clear F9
    go_region
    go_wp2_with fail
    exact bodyPost_ret (v := .tuple #[.int .i64 0, .int .i64 0, fltV k2 a2]) (by simp [results, Tryz.results139, go_sem, f0, f1, f2', fltV, flt0]) rfl ⟨y2, (Blk.st3 HD.out.2.2.1 hgf).drew, ok2, b2, (Turn.st3 HD.out.2.2.2 (.inr hnf)).drew, .inl ⟨k2, a2, 0, 0, t, hk2, rfl, (Blk.st3 HD.out.1 hxf).drew, fun k => by rw [sunNext_three ha hv hn]; exact nr2 z _⟩⟩
  · generalize hw9 : ((w4.setCell ⟨w.heap.size, 0, none⟩ (.int .i64 (k4 : Int))).setCell ⟨w.heap.size, 1, none⟩ (.int .i64 8)).setCell ⟨w.heap.size, 2, none⟩ (.int .i64 (a4 : Int)) = w9
    have F9 : FB w9 w.heap.size (k4 : Int) 8 (a4 : Int) := by rw [← hw9]; exact FB.st3 F4
    have S9 : SrcAt w9 p g s 0 s.size (t.a + 1) := by rw [← hw9]; exact Blk.st3 s4 hpf
    have L9 : LedAt w9 g y4 := by rw [← hw9]; exact Blk.st3 l4 hgf
    have X9 : SunX w9 p x h lv 139 t := by rw [← hw9]; exact Blk.st3 X4 hxf
    have T9 : Turn [p, g, x] w w9 := by rw [← hw9]; exact Turn.st3 ((Turn.st3 (HT.out.trans (t2.mono (by simp))) (.inr hnf)).trans (t4.mono (by simp))) (.inr hnf)
    have HD := Lib.hid (And.intro X9 (And.intro S9 (And.intro L9 T9)))
    clear x0 x1 x3 x4 x6 x7 x8 x9 x10 xl f0 f1 f2' z0 z1 z2 fl X9 S9 L9 T9 hw9
    obtain ⟨f0, f1, f2', z0, z1, z2, fl⟩ := FB.all F9
    clear F9
    go_region
    go_wp2_with fail
    exact bodyPost_ret (v := .tuple #[.int .i64 128, .int .i64 (t.a : Int), fltV k4 a4]) (by simp [results, Tryz.results139, go_sem, f0, f1, f2', fltV, flt0]) rfl ⟨y4, (Blk.st3 HD.out.2.2.1 hgf).drew, ok4, (b4.trans b2), (Turn.st3 HD.out.2.2.2 (.inr hnf)).drew, .inl ⟨k4, a4, 128, t.a, t, hk4, rfl, (Blk.st3 HD.out.1 hxf).drew, fun k => by rw [sunNext_three ha hv hn, run_work_yes hw2, if_pos hle2]; exact nr4 z _⟩⟩
  · generalize hw9 : ((w6.setCell ⟨w.heap.size, 0, none⟩ (.int .i64 (k6 : Int))).setCell ⟨w.heap.size, 1, none⟩ (.int .i64 8)).setCell ⟨w.heap.size, 2, none⟩ (.int .i64 (a6 : Int)) = w9
    have F9 : FB w9 w.heap.size (k6 : Int) 8 (a6 : Int) := by rw [← hw9]; exact FB.st3 F6
    have S9 : SrcAt w9 p g s 0 s.size (t.a + 2) := by rw [← hw9]; exact Blk.st3 s6 hpf
    have L9 : LedAt w9 g y6 := by rw [← hw9]; exact Blk.st3 l6 hgf
    have X9 : SunX w9 p x h lv 139 t := by rw [← hw9]; exact Blk.st3 X6 hxf
    have T9 : Turn [p, g, x] w w9 := by rw [← hw9]; exact Turn.st3 ((Turn.st3 ((Turn.st3 (HT.out.trans (t2.mono (by simp))) (.inr hnf)).trans (t4.mono (by simp))) (.inr hnf)).trans (t6.mono (by simp))) (.inr hnf)
    have HD := Lib.hid (And.intro X9 (And.intro S9 (And.intro L9 T9)))
    clear x0 x1 x3 x4 x6 x7 x8 x9 x10 xl f0 f1 f2' z0 z1 z2 fl X9 S9 L9 T9 hw9
    obtain ⟨f0, f1, f2', z0, z1, z2, fl⟩ := FB.all F9
    clear F9
    go_region
    go_wp2_with fail
    exact bodyPost_ret (v := .tuple #[.int .i64 0, .int .i64 0, fltV k6 a6]) (by simp [results, Tryz.results139, go_sem, f0, f1, f2', fltV, flt0]) rfl ⟨y6, (Blk.st3 HD.out.2.2.1 hgf).drew, ok6, (b6.trans (b4.trans b2)), (Turn.st3 HD.out.2.2.2 (.inr hnf)).drew, .inl ⟨k6, a6, 0, 0, t, hk6, rfl, (Blk.st3 HD.out.1 hxf).drew, fun k => by rw [sunNext_three ha hv hn, run_work_yes hw2, if_pos hle2, run_work_yes hw4, if_pos hle4]; exact nr6 z _⟩⟩
  · generalize hw9 : ((((((w6.setCell ⟨w.heap.size, 0, none⟩ (.int .i64 0)).setCell ⟨w.heap.size, 1, none⟩ (.int .i64 0)).setCell ⟨w.heap.size, 2, none⟩ (.int .i64 0)).setCell ⟨x, 8, none⟩ (.int .i64 (bat s (t.a + 1) : Int))).setCell ⟨x, 9, none⟩ (.int .i64 (bat s (t.a + 2) : Int))).setCell ⟨x, 10, none⟩ (.int .i64 (t.a : Int))) = w9
    have X9 : SunX w9 p x h lv 139 ⟨t.a + 3, bat s (t.a + 1), bat s (t.a + 2), t.a⟩ := by rw [← hw9]; exact (Blk.set_ (Blk.set_ (Blk.set_ q6 8 _) 9 _) 10 _).eq_ (by simp [sunXs])
    have S9 : SrcAt w9 p g s 0 s.size (t.a + 3) := by rw [← hw9]; exact Blk.far (Blk.far (Blk.far S6 (p := ⟨x, 8, none⟩) hpx _) (p := ⟨x, 9, none⟩) hpx _) (p := ⟨x, 10, none⟩) hpx _
    have L9 : LedAt w9 g y6 := by rw [← hw9]; exact Blk.far (Blk.far (Blk.far m6 (p := ⟨x, 8, none⟩) hgx _) (p := ⟨x, 9, none⟩) hgx _) (p := ⟨x, 10, none⟩) hgx _
    have F9 : FB w9 w.heap.size 0 0 0 := by rw [← hw9]; exact Blk.far (Blk.far (Blk.far r6 (p := ⟨x, 8, none⟩) hfx _) (p := ⟨x, 9, none⟩) hfx _) (p := ⟨x, 10, none⟩) hfx _
    have T9 : Turn [p, g, x] w w9 := by rw [← hw9]; exact (((Turn.st3 ((Turn.st3 ((Turn.st3 (HT.out.trans (t2.mono (by simp))) (.inr hnf)).trans (t4.mono (by simp))) (.inr hnf)).trans (t6.mono (by simp))) (.inr hnf)).set_ 8 _ (.inl (by simp))).set_ 9 _ (.inl (by simp))).set_ 10 _ (.inl (by simp))
    clear hw9 x0 x1 x3 x4 x6 x7 x8 x9 x10 xl f0 f1 f2' z0 z1 z2 fl
    obtain ⟨f0, f1, f2', z0, z1, z2, fl⟩ := FB.all F9
    exact bodyPost_ret (v := .tuple #[.int .i64 (bat s (t.a + 2) : Int), .int .i64 (t.a : Int), flt0]) (by simp [results, Tryz.results139, go_sem, f0, f1, f2', fltV, flt0]) rfl ⟨y6, Blk.st3 L9 hgf, ok6, (b6.trans (b4.trans b2)), Turn.st3 T9 (.inr hnf), .inr ⟨bat s (t.a + 2), t.a, ⟨t.a + 3, bat s (t.a + 1), bat s (t.a + 2), t.a⟩, rfl, bat_lt _ _, HO.out.a, ⟨hle6, HO.out.a, bat_lt _ _, bat_lt _ _⟩, yr6, Blk.st3 S9 hpf, Blk.st3 X9 hxf, fun k => by rw [sunNext_three ha hv hn, run_work_yes hw2, if_pos hle2, run_work_yes hw4, if_pos hle4, run_work_yes hw6, if_pos hle6]⟩⟩
theorem isNext_packed (hsm : s.size ≤ 1099511627776) : IsNext s h lv 139 true z := by
  refine ⟨fun x w => by kernel_rfl, fun w p g x t y S L X ok yok hr => ?_⟩
  by_cases ha : 0 < t.again
  · exact sunPacked_again hsm S L X ok yok hr ha
  · by_cases hv : bat s t.a = 128
    · by_cases hn : bat s (t.a + 1) = 0
      · exact sunPacked_two hsm S L X ok yok hr ha hv hn
      · exact sunPacked_three hsm S L X ok yok hr ha hv hn
    · exact sunPacked_one hsm S L X ok yok hr ha hv
end
end Go.Proofs.YtccldalagbfmhaaGreat
