/- qoi: Sides; Decode, by any budget. -/
import Derived.Test.YtojobfnbakiicaaGreatQoiK
import Derived.Test.YtojobfnbakiicaaGreatQoiY
import Derived.Test.YtojobfnbakiicaaGreatFfE
namespace Go.Proofs.YtojobfnbakiicaaGreat
open Go.RowKit
set_option linter.unusedVariables false
set_option linter.unusedSimpArgs false

set_option maxRecDepth 100000 in
set_option maxHeartbeats 1000000 in
theorem qoiSides_spent {w : World} {p g : Nat} {s : ByteArray} {x y : Led} (h : SrcAt w p g s 0 s.size 0) (k : LedAt w g x) (ok : x.Ok) (e : x.work 1 = (y, false)) (hy : y.reason ≠ 0) :
    Calls Tryz.prog 56 #[.pointer (some ⟨p, 0, none⟩)] w fun e w' => e = .returned (.tuple #[.int .i64 0, .int .i64 0, .agg #[.int .i64 4, .int .i64 5, .int .i64 0]]) ∧ SrcAt w' p g s 0 s.size 0 ∧ LedAt w' g y ∧ Turn [p, g] w w' := by
  have HOK := Lib.hid ok
  have HE := Lib.hid e
  have HY := Lib.hid hy
  clear ok e hy
  have hp := Blk.lt h
  have hg := Blk.lt k
  have F0 := FB.new w
  have S0 : SrcAt (w.alloc (.cells #[.int .i64 0, .int .i64 0, .int .i64 0] 31)) p g s 0 s.size 0 := Blk.alloc h _
  have L0 : LedAt (w.alloc (.cells #[.int .i64 0, .int .i64 0, .int .i64 0] 31)) g x := Blk.alloc k _
  have T0 : Turn [p, g] w (w.alloc (.cells #[.int .i64 0, .int .i64 0, .int .i64 0] 31)) := (Turn.refl _ _).alloc _
  have nf : w.heap.size ∉ [p, g] := by simp; omega
  clear h k
  go_enter Tryz.func56, Tryz.ntmps56
  go_wp2_with fail
  generalize w.alloc (.cells #[.int .i64 0, .int .i64 0, .int .i64 0] 31) = ws at F0 S0 L0 T0 ⊢
  generalize hf : w.heap.size = f at F0 nf ⊢
  have HF := Lib.hid hf
  have F1 := Lib.hid F0
  have S1 := Lib.hid S0
  have L1 := Lib.hid L0
  have T1 := Lib.hid T0
  have hpf : p ≠ f := by rw [← hf]; exact Nat.ne_of_lt hp
  have hgf : g ≠ f := by rw [← hf]; exact Nat.ne_of_lt hg
  clear F0 S0 L0 T0 hf hp hg
  refine (srcAt_at S1.out).mono ?_
  rintro e w1 ⟨rfl, rfl⟩
  go_wp2_with (first
    | (go_at_call 109; refine (take_spent 14 S1.out L1.out HOK.out HE.out).mono ?_; rintro e w2 ⟨rfl, s2, l2, t2⟩; have f2 := FB.turn F1.out t2 nf)
    | (go_at_call 59; refine (srcFault_spent 5 s2 l2 HY.out).mono ?_; rintro e w4 ⟨rfl, b4⟩; have f4 := FB.below f2 b4; have s4 := Blk.below s2 b4 (Blk.lt s2); have l4 := Blk.below l2 b4 (Blk.lt l2); have t4 := (T1.out.trans t2).trans (Turn.of_below (S := [p, g]) b4); obtain ⟨c0, c1, c2, z0, z1, z2, fl⟩ := FB.all f4))
  exact bodyPost_ret (v := .tuple #[.int .i64 0, .int .i64 0, .agg #[.int .i64 4, .int .i64 5, .int .i64 0]]) (by simp [results, Tryz.results56, go_sem, c0, c1, c2]) rfl ⟨rfl, Blk.st3 s4 hpf, Blk.st3 l4 hgf, Turn.st3 t4 (.inr (Nat.le_of_eq HF.out))⟩
set_option maxRecDepth 100000 in
set_option maxHeartbeats 1000000 in
theorem qoiSides_short {w : World} {p g : Nat} {s : ByteArray} {x y : Led} (h : SrcAt w p g s 0 s.size 0) (hsm : s.size ≤ 1099511627776) (k : LedAt w g x) (ok : x.Ok) (e : x.work 1 = (y, true)) (hy : y.reason = 0) (hs : s.size < 14) :
    Calls Tryz.prog 56 #[.pointer (some ⟨p, 0, none⟩)] w fun e w' => e = .returned (.tuple #[.int .i64 0, .int .i64 0, .agg #[.int .i64 1, .int .i64 5, .int .i64 (s.size : Int)]]) ∧ SrcAt w' p g s 0 s.size 0 ∧ LedAt w' g y ∧ Turn [p, g] w w' := by
  have HOK := Lib.hid ok
  have HE := Lib.hid e
  have HY := Lib.hid hy
  have HO : Hid (SrcOk s 0 s.size 0) := Lib.hid ⟨Nat.le_refl _, Nat.zero_le _, Nat.le_refl _, hsm⟩
  clear ok e hy
  have hp := Blk.lt h
  have hg := Blk.lt k
  have F0 := FB.new w
  have S0 : SrcAt (w.alloc (.cells #[.int .i64 0, .int .i64 0, .int .i64 0] 31)) p g s 0 s.size 0 := Blk.alloc h _
  have L0 : LedAt (w.alloc (.cells #[.int .i64 0, .int .i64 0, .int .i64 0] 31)) g x := Blk.alloc k _
  have T0 : Turn [p, g] w (w.alloc (.cells #[.int .i64 0, .int .i64 0, .int .i64 0] 31)) := (Turn.refl _ _).alloc _
  have nf : w.heap.size ∉ [p, g] := by simp; omega
  clear h k
  go_enter Tryz.func56, Tryz.ntmps56
  go_wp2_with fail
  generalize w.alloc (.cells #[.int .i64 0, .int .i64 0, .int .i64 0] 31) = ws at F0 S0 L0 T0 ⊢
  generalize hf : w.heap.size = f at F0 nf ⊢
  have HF := Lib.hid hf
  have F1 := Lib.hid F0
  have S1 := Lib.hid S0
  have L1 := Lib.hid L0
  have T1 := Lib.hid T0
  have hpf : p ≠ f := by rw [← hf]; exact Nat.ne_of_lt hp
  have hgf : g ≠ f := by rw [← hf]; exact Nat.ne_of_lt hg
  clear F0 S0 L0 T0 hf hp hg
  refine (srcAt_at S1.out).mono ?_
  rintro e w1 ⟨rfl, rfl⟩
  go_wp2_with (first
    | (go_at_call 109; refine (take_short 14 S1.out HO.out L1.out HOK.out HE.out (by omega)).mono ?_; rintro e w2 ⟨rfl, s2, l2, t2⟩; have f2 := FB.turn F1.out t2 nf)
    | (go_at_call 59; refine (srcFault_short 5 s2 l2 HY.out).mono ?_; rintro e w4 ⟨rfl, b4⟩; have f4 := FB.below f2 b4; have s4 := Blk.below s2 b4 (Blk.lt s2); have l4 := Blk.below l2 b4 (Blk.lt l2); have t4 := (T1.out.trans t2).trans (Turn.of_below (S := [p, g]) b4); obtain ⟨c0, c1, c2, z0, z1, z2, fl⟩ := FB.all f4))
  exact bodyPost_ret (v := .tuple #[.int .i64 0, .int .i64 0, .agg #[.int .i64 1, .int .i64 5, .int .i64 (s.size : Int)]]) (by simp [results, Tryz.results56, go_sem, c0, c1, c2]) rfl ⟨rfl, Blk.st3 s4 hpf, Blk.st3 l4 hgf, Turn.st3 t4 (.inr (Nat.le_of_eq HF.out))⟩
set_option maxRecDepth 100000 in
set_option maxHeartbeats 1000000 in
theorem qoiSides_bad {w : World} {p g : Nat} {s : ByteArray} {x y : Led} {fk fa : Nat} (h : SrcAt w p g s 0 s.size 0) (hsm : s.size ≤ 1099511627776) (k : LedAt w g x) (ok : x.Ok) (e : x.work 1 = (y, true)) (hs : 14 ≤ s.size) (hh : qoiHead s = some (fk, fa)) (hk : fk ≠ 0) :
    Calls Tryz.prog 56 #[.pointer (some ⟨p, 0, none⟩)] w fun e w' => e = .returned (.tuple #[.int .i64 0, .int .i64 0, .agg #[.int .i64 (fk : Int), .int .i64 5, .int .i64 (fa : Int)]]) ∧ SrcAt w' p g s 0 s.size 14 ∧ LedAt w' g y ∧ Turn [p, g] w w' := by
  have hk' : ¬ (fk : Int) = 0 := by omega
  have HOK := Lib.hid ok
  have HE := Lib.hid e
  have HO : Hid (SrcOk s 0 s.size 0) := Lib.hid ⟨Nat.le_refl _, Nat.zero_le _, Nat.le_refl _, hsm⟩
  have hz := extract_size s 0 14 (by omega)
  have HC := Lib.hid (fun w => qoiCheckC hz w)
  rw [qoiHead_cut, hh] at HC
  have HH4 := Lib.hid (fun w => qoiHigh_head (a := 4) hs (by decide) rfl w)
  have HH8 := Lib.hid (fun w => qoiHigh_head (a := 8) hs (by decide) rfl w)
  have TT := Lib.hid (fun (w : World) (o : SrcOk s 0 s.size 0) (h : SrcAt w p g s 0 s.size 0) (k : LedAt w g x) => take_yes 14 h o k HOK.out HE.out (by omega))
  generalize s.extract 0 (0 + 14) = hd at hz HC HH4 HH8 TT
  have hz1 : (14 : Int) ≤ (hd.size : Int) := by omega
  clear ok e hh
  clear HH4 HH8 hz hs
  have hp := Blk.lt h
  have hg := Blk.lt k
  have F0 := FB.new w
  have S0 : SrcAt (w.alloc (.cells #[.int .i64 0, .int .i64 0, .int .i64 0] 31)) p g s 0 s.size 0 := Blk.alloc h _
  have L0 : LedAt (w.alloc (.cells #[.int .i64 0, .int .i64 0, .int .i64 0] 31)) g x := Blk.alloc k _
  have T0 : Turn [p, g] w (w.alloc (.cells #[.int .i64 0, .int .i64 0, .int .i64 0] 31)) := (Turn.refl _ _).alloc _
  have nf : w.heap.size ∉ [p, g] := by simp; omega
  clear h k
  go_enter Tryz.func56, Tryz.ntmps56
  go_wp2_with fail
  generalize w.alloc (.cells #[.int .i64 0, .int .i64 0, .int .i64 0] 31) = ws at F0 S0 L0 T0 ⊢
  generalize hf : w.heap.size = f at F0 nf ⊢
  have HF := Lib.hid hf
  have F1 := Lib.hid F0
  have S1 := Lib.hid S0
  have L1 := Lib.hid L0
  have T1 := Lib.hid T0
  have hpf : p ≠ f := by rw [← hf]; exact Nat.ne_of_lt hp
  have hgf : g ≠ f := by rw [← hf]; exact Nat.ne_of_lt hg
  clear F0 S0 L0 T0 hf hp hg
  refine (srcAt_at S1.out).mono ?_
  rintro e w1 ⟨rfl, rfl⟩
  go_wp2_with (first
    | (go_at_call 109; refine (TT.out _ HO.out S1.out L1.out).mono ?_; rintro e w2 ⟨rfl, s2, l2, t2⟩; have f2 := FB.turn F1.out t2 nf)
    | (go_at_call 110; refine (HC.out _).mono ?_; rintro e w4 ⟨rfl, b4⟩; (try unfold qoiTold); have f4 := FB.below f2 b4; have s4 := Blk.below s2 b4 (Blk.lt s2); have l4 := Blk.below l2 b4 (Blk.lt l2); have t4 := (T1.out.trans t2).trans (Turn.of_below (S := [p, g]) b4); obtain ⟨c0, c1, c2, z0, z1, z2, fl⟩ := FB.all f4))
  have f5 := FB.st3 (k' := (fk : Int)) (f' := 5) (i' := (fa : Int)) f4
  have s5 : SrcAt (st3 w4 f (.int .i64 (fk : Int)) (.int .i64 5) (.int .i64 (fa : Int))) p g s 0 s.size 14 := Blk.st3 s4 hpf
  have l5 : LedAt (st3 w4 f (.int .i64 (fk : Int)) (.int .i64 5) (.int .i64 (fa : Int))) g y := Blk.st3 l4 hgf
  have t5 := Turn.st3 (b := f) (u := .int .i64 (fk : Int)) (v := .int .i64 5) (x := .int .i64 (fa : Int)) t4 (.inr (Nat.le_of_eq HF.out))
  change Code.wp _ _ _ _ (st3 w4 f (.int .i64 (fk : Int)) (.int .i64 5) (.int .i64 (fa : Int)))
  generalize st3 w4 f (.int .i64 (fk : Int)) (.int .i64 5) (.int .i64 (fa : Int)) = w5 at f5 s5 l5 t5 ⊢
  clear c0 c1 c2 z0 z1 z2 fl f4 s4 l4
  obtain ⟨c0, c1, c2, z0, z1, z2, fl⟩ := FB.all f5
  go_region
  go_wp2_with fail
  exact bodyPost_ret (v := .tuple #[.int .i64 0, .int .i64 0, .agg #[.int .i64 (fk : Int), .int .i64 5, .int .i64 (fa : Int)]]) (by simp [results, Tryz.results56, go_sem, c0, c1, c2]) rfl ⟨rfl, (Blk.st3 s5 hpf).drew, (Blk.st3 l5 hgf).drew, (Turn.st3 t5 (.inr (Nat.le_of_eq HF.out))).drew⟩
set_option maxRecDepth 100000 in
set_option maxHeartbeats 1000000 in
theorem qoiSides_ok {w : World} {p g W H : Nat} {s : ByteArray} {x y : Led} (h : SrcAt w p g s 0 s.size 0) (hsm : s.size ≤ 1099511627776) (k : LedAt w g x) (ok : x.Ok) (e : x.work 1 = (y, true)) (hs : 14 ≤ s.size) (hh : qoiHead s = none) (hW : beN s 4 4 = W) (hH : beN s 8 4 = H) :
    Calls Tryz.prog 56 #[.pointer (some ⟨p, 0, none⟩)] w fun e w' => e = .returned (.tuple #[.int .i64 (W : Int), .int .i64 (H : Int), .agg #[.int .i64 0, .int .i64 0, .int .i64 0]]) ∧ SrcAt w' p g s 0 s.size 14 ∧ LedAt w' g y ∧ Turn [p, g] w w' := by
  have HOK := Lib.hid ok
  have HE := Lib.hid e
  have HO : Hid (SrcOk s 0 s.size 0) := Lib.hid ⟨Nat.le_refl _, Nat.zero_le _, Nat.le_refl _, hsm⟩
  have hz := extract_size s 0 14 (by omega)
  have HC := Lib.hid (fun w => qoiCheckC hz w)
  rw [qoiHead_cut, hh] at HC
  have HH4 := Lib.hid (fun w => qoiHigh_head (a := 4) hs (by decide) rfl w)
  have HH8 := Lib.hid (fun w => qoiHigh_head (a := 8) hs (by decide) rfl w)
  have TT := Lib.hid (fun (w : World) (o : SrcOk s 0 s.size 0) (h : SrcAt w p g s 0 s.size 0) (k : LedAt w g x) => take_yes 14 h o k HOK.out HE.out (by omega))
  generalize s.extract 0 (0 + 14) = hd at hz HC HH4 HH8 TT
  have hz1 : (14 : Int) ≤ (hd.size : Int) := by omega
  clear ok e hh
  have HW := Lib.hid hW
  have HI := Lib.hid hH
  clear hz hs hW hH
  have hp := Blk.lt h
  have hg := Blk.lt k
  have F0 := FB.new w
  have S0 : SrcAt (w.alloc (.cells #[.int .i64 0, .int .i64 0, .int .i64 0] 31)) p g s 0 s.size 0 := Blk.alloc h _
  have L0 : LedAt (w.alloc (.cells #[.int .i64 0, .int .i64 0, .int .i64 0] 31)) g x := Blk.alloc k _
  have T0 : Turn [p, g] w (w.alloc (.cells #[.int .i64 0, .int .i64 0, .int .i64 0] 31)) := (Turn.refl _ _).alloc _
  have nf : w.heap.size ∉ [p, g] := by simp; omega
  clear h k
  go_enter Tryz.func56, Tryz.ntmps56
  go_wp2_with fail
  generalize w.alloc (.cells #[.int .i64 0, .int .i64 0, .int .i64 0] 31) = ws at F0 S0 L0 T0 ⊢
  generalize hf : w.heap.size = f at F0 nf ⊢
  have HF := Lib.hid hf
  have F1 := Lib.hid F0
  have S1 := Lib.hid S0
  have L1 := Lib.hid L0
  have T1 := Lib.hid T0
  have hpf : p ≠ f := by rw [← hf]; exact Nat.ne_of_lt hp
  have hgf : g ≠ f := by rw [← hf]; exact Nat.ne_of_lt hg
  clear F0 S0 L0 T0 hf hp hg
  refine (srcAt_at S1.out).mono ?_
  rintro e w1 ⟨rfl, rfl⟩
  go_wp2_with (first
    | (go_at_call 109; refine (TT.out _ HO.out S1.out L1.out).mono ?_; rintro e w2 ⟨rfl, s2, l2, t2⟩; have f2 := FB.turn F1.out t2 nf)
    | (go_at_call 110; refine (HC.out _).mono ?_; rintro e w4 ⟨rfl, b4⟩; (try unfold qoiTold); have f4 := FB.below f2 b4; have s4 := Blk.below s2 b4 (Blk.lt s2); have l4 := Blk.below l2 b4 (Blk.lt l2); have t4 := (T1.out.trans t2).trans (Turn.of_below (S := [p, g]) b4); obtain ⟨c0, c1, c2, z0, z1, z2, fl⟩ := FB.all f4))
  have f5 := FB.st3 (k' := 0) (f' := 0) (i' := 0) f4
  have s5 : SrcAt (st3 w4 f (.int .i64 0) (.int .i64 0) (.int .i64 0)) p g s 0 s.size 14 := Blk.st3 s4 hpf
  have l5 : LedAt (st3 w4 f (.int .i64 0) (.int .i64 0) (.int .i64 0)) g y := Blk.st3 l4 hgf
  have t5 := Turn.st3 (b := f) (u := .int .i64 0) (v := .int .i64 0) (x := .int .i64 0) t4 (.inr (Nat.le_of_eq HF.out))
  change Calls _ _ _ (st3 w4 f (.int .i64 0) (.int .i64 0) (.int .i64 0)) _
  generalize st3 w4 f (.int .i64 0) (.int .i64 0) (.int .i64 0) = w5 at f5 s5 l5 t5 ⊢
  clear c0 c1 c2 z0 z1 z2 fl f4 s4 l4
  obtain ⟨c0, c1, c2, z0, z1, z2, fl⟩ := FB.all f5
  refine (HH4.out _).mono ?_
  rintro e w6 ⟨rfl, rfl⟩
  go_wp2_with (first
    | (go_at_call_of 111 (Value.int .i64 4); refine (HH4.out _).mono ?_; rintro e w6 ⟨rfl, rfl⟩)
    | (go_at_call_of 111 (Value.int .i64 8); refine (HH8.out _).mono ?_; rintro e w6 ⟨rfl, rfl⟩))
  all_goals rw [HW.out, HI.out]
  all_goals exact bodyPost_ret (v := .tuple #[.int .i64 (W : Int), .int .i64 (H : Int), .agg #[.int .i64 0, .int .i64 0, .int .i64 0]]) (by simp [results, Tryz.results56, go_sem, c0, c1, c2]) rfl ⟨rfl, Blk.st3 (w := w5.drew.drew) s5 hpf, Blk.st3 (w := w5.drew.drew) l5 hgf, Turn.st3 (w := w5.drew.drew) t5.drew.drew (.inr (Nat.le_of_eq HF.out))⟩
set_option maxRecDepth 100000 in
set_option maxHeartbeats 2000000 in
theorem qoiDecode_bad {w : World} {p g k a : Nat} {s : ByteArray} {x y : Led} (h : SrcAt w p g s 0 s.size 0) (hl : LedAt w g x) (yok : y.Ok) (hk : k ≠ 0) (hD : (qoiDec s).run x = (y, .bad k a))
    (HS : ∀ w, SrcAt w p g s 0 s.size 0 → LedAt w g x → Calls Tryz.prog 56 #[.pointer (some ⟨p, 0, none⟩)] w fun e w' => e = .returned (.tuple #[.int .i64 0, .int .i64 0, .agg #[.int .i64 (k : Int), .int .i64 5, .int .i64 (a : Int)]]) ∧ (∃ t, SrcAt w' p g s 0 s.size t) ∧ LedAt w' g y ∧ Turn [p, g] w w') :
    Calls Tryz.prog 17 #[.pointer (some ⟨p, 0, none⟩)] w fun e w' => DecPost 5 (qoiDec s) x w w' p g e := by
  have hp := Blk.lt h
  have hg := Blk.lt hl
  have hk' : ¬ (k : Int) = 0 := by omega
  have F0 := FB.new w
  have S0 : SrcAt (w.alloc (.cells #[.int .i64 0, .int .i64 0, .int .i64 0] 31)) p g s 0 s.size 0 := Blk.alloc h _
  have L0 : LedAt (w.alloc (.cells #[.int .i64 0, .int .i64 0, .int .i64 0] 31)) g x := Blk.alloc hl _
  have T0 : Turn [p, g] w (w.alloc (.cells #[.int .i64 0, .int .i64 0, .int .i64 0] 31)) := (Turn.refl _ _).alloc _
  have nf : w.heap.size ∉ [p, g] := by simp; omega
  have HS' := Lib.hid (HS _ S0 L0)
  have HD := Lib.hid hD
  have HK := Lib.hid yok
  clear h hl HS S0 L0 hD yok
  go_enter Tryz.func17, Tryz.ntmps17
  go_wp2_with (go_at_call 56; refine HS'.out.mono ?_; rintro e w1 ⟨rfl, ⟨t, s1⟩, l1, t1⟩)
  have f1 : FB (w1.alloc (.cells #[.int .i64 (k : Int), .int .i64 5, .int .i64 (a : Int)] 31)) w.heap.size 0 0 0 := Blk.alloc (FB.turn F0 t1 nf) _
  have g1 : FB (w1.alloc (.cells #[.int .i64 (k : Int), .int .i64 5, .int .i64 (a : Int)] 31)) w1.heap.size (k : Int) 5 (a : Int) := Blk.new _ _ _
  have l2 : LedAt (w1.alloc (.cells #[.int .i64 (k : Int), .int .i64 5, .int .i64 (a : Int)] 31)) g y := Blk.alloc l1 _
  have t2 : Turn [p, g] w (w1.alloc (.cells #[.int .i64 (k : Int), .int .i64 5, .int .i64 (a : Int)] 31)) := (T0.trans t1).alloc _
  generalize w1.alloc (.cells #[.int .i64 (k : Int), .int .i64 5, .int .i64 (a : Int)] 31) = w2 at f1 g1 l2 t2 ⊢
  have hgf : g ≠ w.heap.size := by omega
  have hnf : w.heap.size ≤ w.heap.size := Nat.le_refl _
  generalize w1.heap.size = q at g1 ⊢
  obtain ⟨c0, c1, c2, z0, z1, z2, fl⟩ := FB.all f1
  obtain ⟨d0, d1, d2, y0, y1, y2, gl⟩ := FB.all g1
  have HL := Lib.hid l2
  have HT := Lib.hid t2
  clear F0 T0 nf s1 l1 t1 hp hg f1 g1 l2 t2
  go_region
  go_wp2_with fail
  exact bodyPost_ret (v := .tuple #[.pointer none, .agg #[.int .i64 (k : Int), .int .i64 5, .int .i64 (a : Int)]]) (by simp [results, Tryz.results17, go_sem, c0, c1, c2]) rfl ⟨y, (Blk.st3 HL.out hgf).drew, HK.out, (Turn.st3 HT.out (.inr hnf)).drew, .inl ⟨k, a, hk, HD.out, rfl⟩⟩
set_option maxRecDepth 100000 in
set_option maxHeartbeats 2000000 in
theorem qoiDecode_no {w : World} {p g W H : Nat} {s : ByteArray} {x y y2 : Led} (h : SrcAt w p g s 0 s.size 0) (hl : LedAt w g x) (yok : y2.Ok) (hy : y2.reason ≠ 0) (hD : (qoiDec s).run x = (y2, .bad 4 14))
    (HS : ∀ w, SrcAt w p g s 0 s.size 0 → LedAt w g x → Calls Tryz.prog 56 #[.pointer (some ⟨p, 0, none⟩)] w fun e w' => e = .returned (.tuple #[.int .i64 (W : Int), .int .i64 (H : Int), .agg #[.int .i64 0, .int .i64 0, .int .i64 0]]) ∧ SrcAt w' p g s 0 s.size 14 ∧ LedAt w' g y ∧ Turn [p, g] w w')
    (HN : ∀ w, LedAt w g y → Calls Tryz.prog 57 #[.pointer (some ⟨g, 0, none⟩), .int .i64 (W : Int), .int .i64 (H : Int)] w fun e w' => e = .returned (.tuple #[.pointer none, .int .i64 4]) ∧ LedAt w' g y2 ∧ Turn [g] w w') :
    Calls Tryz.prog 17 #[.pointer (some ⟨p, 0, none⟩)] w fun e w' => DecPost 5 (qoiDec s) x w w' p g e := by
  have hp := Blk.lt h
  have hg := Blk.lt hl
  have hpg : p ≠ g := h.ne hl
  have F0 := FB.new w
  have S0 : SrcAt (w.alloc (.cells #[.int .i64 0, .int .i64 0, .int .i64 0] 31)) p g s 0 s.size 0 := Blk.alloc h _
  have L0 : LedAt (w.alloc (.cells #[.int .i64 0, .int .i64 0, .int .i64 0] 31)) g x := Blk.alloc hl _
  have T0 : Turn [p, g] w (w.alloc (.cells #[.int .i64 0, .int .i64 0, .int .i64 0] 31)) := (Turn.refl _ _).alloc _
  have nf : w.heap.size ∉ [p, g] := by simp; omega
  have HS' := Lib.hid (HS _ S0 L0)
  have HN' := Lib.hid HN
  have HD := Lib.hid hD
  have HK := Lib.hid yok
  have HY := Lib.hid hy
  clear h hl HS S0 L0 hD yok hy HN
  go_enter Tryz.func17, Tryz.ntmps17
  go_wp2_with (go_at_call 56; refine HS'.out.mono ?_; rintro e w1 ⟨rfl, s1, l1, t1⟩)
  have f1 : FB (w1.alloc (.cells #[.int .i64 0, .int .i64 0, .int .i64 0] 31)) w.heap.size 0 0 0 := Blk.alloc (FB.turn F0 t1 nf) _
  have s2 : SrcAt (w1.alloc (.cells #[.int .i64 0, .int .i64 0, .int .i64 0] 31)) p g s 0 s.size 14 := Blk.alloc s1 _
  have l2 : LedAt (w1.alloc (.cells #[.int .i64 0, .int .i64 0, .int .i64 0] 31)) g y := Blk.alloc l1 _
  have t2 : Turn [p, g] w (w1.alloc (.cells #[.int .i64 0, .int .i64 0, .int .i64 0] 31)) := (T0.trans t1).alloc _
  generalize w1.alloc (.cells #[.int .i64 0, .int .i64 0, .int .i64 0] 31) = w2 at f1 s2 l2 t2 ⊢
  have hgf : g ≠ w.heap.size := by omega
  have hnf : w.heap.size ≤ w.heap.size := Nat.le_refl _
  generalize w1.heap.size = q
  have F2 := Lib.hid f1
  have S2 := Lib.hid s2
  have L2 := Lib.hid l2
  have T2 := Lib.hid t2
  clear F0 T0 nf s1 l1 t1 hp hg f1 s2 l2 t2
  refine (srcLedger_at S2.out).mono ?_
  rintro e w3 ⟨rfl, rfl⟩
  go_wp2_with (first
    | (go_at_call 59; refine (srcFault_spent 5 s4 l4 HY.out).mono ?_; rintro e w5 ⟨rfl, b5⟩; have l5 := Blk.below l4 b5 (Blk.lt l4); have t5 := (T2.out.trans (t4.mono (by simp))).trans (Turn.of_below (S := [p, g]) b5); obtain ⟨c0, c1, c2, z0, z1, z2, fl⟩ := FB.all (FB.below (FB.turn F2.out t4 (by simpa using hgf.symm)) b5))
    | (go_at_call 57; refine (HN'.out _ L2.out).mono ?_; rintro e w4 ⟨rfl, l4, t4⟩; have s4 := S2.out.turn t4 (by simpa using hpg)))
  exact bodyPost_ret (v := .tuple #[.pointer none, .agg #[.int .i64 4, .int .i64 5, .int .i64 14]]) (by simp [results, Tryz.results17, go_sem, c0, c1, c2]) rfl ⟨y2, Blk.st3 l5 hgf, HK.out, Turn.st3 t5 (.inr hnf), .inl ⟨4, 14, by decide, HD.out, rfl⟩⟩
theorem PixE.st3 {w0 w : World} {p g r b d W H z q : Nat} {l : List UInt8} {y : Led} {u v e : Value} {k f i : Int} (E : PixE w0 w p g r b d W H z l y) (Q : FB w q k f i) (hn : w0.heap.size ≤ q) : PixE w0 (st3 w q u v e) p g r b d W H z l y :=
  ⟨Blk.st3 E.L (Blk.ne_ E.L Q (by decide)), Blk.st3 E.R (Blk.ne_ E.R Q (by decide)), ⟨Blk.st3 E.B.blk (Blk.ne_ E.B.blk Q (by decide)), Blk.st3 E.B.row (Blk.ne_ E.B.row Q (by decide))⟩, E.len, E.ok, E.y1, Turn.st3 E.T (.inr hn)⟩
set_option maxRecDepth 100000 in
set_option maxHeartbeats 4000000 in
theorem qoiDecode_yes {w : World} {p g W H N z : Nat} {s : ByteArray} {x y y2 : Led} (h : SrcAt w p g s 0 s.size 0) (hsm : s.size ≤ 1099511627776) (hs14 : 14 ≤ s.size) (hl : LedAt w g x) (hD : (qoiDec s).run x = (qoiPix s W H N z N 14 q255 qseen []).run y2)
    (HS : ∀ w, SrcAt w p g s 0 s.size 0 → LedAt w g x → Calls Tryz.prog 56 #[.pointer (some ⟨p, 0, none⟩)] w fun e w' => e = .returned (.tuple #[.int .i64 (W : Int), .int .i64 (H : Int), .agg #[.int .i64 0, .int .i64 0, .int .i64 0]]) ∧ SrcAt w' p g s 0 s.size 14 ∧ LedAt w' g y ∧ Turn [p, g] w w')
    (ok : y.Ok) (hr : y.reason = 0) (hN : W * H = N) (hz : 4 * N = z) (hW : 1 ≤ W ∧ W ≤ 16384) (hH : 1 ≤ H ∧ H ≤ 16384) (e1 : y.sides W H = (y, true)) (e2 : y.take (z : Int) = (y2, true)) :
    Calls Tryz.prog 17 #[.pointer (some ⟨p, 0, none⟩)] w fun e w' => DecPost 5 (qoiDec s) x w w' p g e := by
  have hp := Blk.lt h
  have hg := Blk.lt hl
  have hpg : p ≠ g := h.ne hl
  have F0 := FB.new w
  have S0 : SrcAt (w.alloc (.cells #[.int .i64 0, .int .i64 0, .int .i64 0] 31)) p g s 0 s.size 0 := Blk.alloc h _
  have L0 : LedAt (w.alloc (.cells #[.int .i64 0, .int .i64 0, .int .i64 0] 31)) g x := Blk.alloc hl _
  have T0 : Turn [p, g] w (w.alloc (.cells #[.int .i64 0, .int .i64 0, .int .i64 0] 31)) := (Turn.refl _ _).alloc _
  have nf : w.heap.size ∉ [p, g] := by simp; omega
  have HS' := Lib.hid (HS _ S0 L0)
  have HD := Lib.hid hD
  have ok2 : y2.Ok := by have := ok.take (z : Int); rw [e2] at this; exact this
  obtain ⟨_, r2, b2, _⟩ := led_take_yes (x := y) (n := (z : Int)) (by rw [e2])
  rw [e2] at r2 b2
  have hb2 : (z : Int) ≤ y2.bytes := by have h1 : y2.bytes = y.bytes + z := b2; have := ok.y0; omega
  have hN1 : N ≤ 16384 * 16384 := by rw [← hN]; exact Nat.mul_le_mul hW.2 hH.2
  have HN := Lib.hid (fun w (l : LedAt w g y) => rasNew_yes (W := W) (H := H) (y := N) (z := z) ⟨⟨by omega, by omega⟩, ⟨by omega, by omega⟩⟩ hN (by omega) (by omega) l ok e1 e2)
  have HP := Lib.hid (fun w r b d (S0 : SrcAt w p g s 0 s.size 14) (L0 : LedAt w g y2) (R0 : RasAt w r g b (W : Int) (H : Int) true) (B0 : BufAt w b g d (List.replicate z 0)) => qoiPixels S0 hsm hs14 L0 ok2 r2 R0 B0 hb2 hN hz hW hH)
  have HSM := Lib.hid hsm
  clear h hl HS S0 L0 hD ok hr hN hz hW hH e1 e2 r2 b2 hb2 ok2
  go_enter Tryz.func17, Tryz.ntmps17
  go_wp2_with (go_at_call 56; refine HS'.out.mono ?_; rintro e w1 ⟨rfl, s1, l1, t1⟩)
  have f1 : FB (w1.alloc (.cells #[.int .i64 0, .int .i64 0, .int .i64 0] 31)) w.heap.size 0 0 0 := Blk.alloc (FB.turn F0 t1 nf) _
  have q1 : FB (w1.alloc (.cells #[.int .i64 0, .int .i64 0, .int .i64 0] 31)) w1.heap.size 0 0 0 := FB.new w1
  have hqf : w.heap.size ≠ w1.heap.size := Nat.ne_of_lt (by have := (FB.turn F0 t1 nf); exact Blk.lt this)
  have s2 : SrcAt (w1.alloc (.cells #[.int .i64 0, .int .i64 0, .int .i64 0] 31)) p g s 0 s.size 14 := Blk.alloc s1 _
  have l2 : LedAt (w1.alloc (.cells #[.int .i64 0, .int .i64 0, .int .i64 0] 31)) g y := Blk.alloc l1 _
  have t2 : Turn [p, g] w (w1.alloc (.cells #[.int .i64 0, .int .i64 0, .int .i64 0] 31)) := (T0.trans t1).alloc _
  have hqn : w.heap.size ≤ w1.heap.size := by have := (T0.trans t1).size; exact this
  generalize w1.alloc (.cells #[.int .i64 0, .int .i64 0, .int .i64 0] 31) = w2 at f1 q1 s2 l2 t2 ⊢
  have hgf : g ≠ w.heap.size := by omega
  have hpf : p ≠ w.heap.size := by omega
  have hsz2 : w.heap.size ≤ w2.heap.size := t2.size
  have hnf : w.heap.size ≤ w.heap.size := Nat.le_refl _
  generalize w1.heap.size = q at q1 hqf hqn ⊢
  have hqf' := hqf.symm
  have F2 := Lib.hid f1
  have Q2 := Lib.hid q1
  have S2 := Lib.hid s2
  have L2 := Lib.hid l2
  have T2 := Lib.hid t2
  have hqp : q ≠ p := Blk.ne_ q1 s2 (by decide)
  have hqg : q ≠ g := Blk.ne_ q1 l2 (by decide)
  clear F0 T0 nf s1 l1 t1 hp hg f1 s2 l2 t2
  obtain ⟨d0, d1, d2, y0, y1, yy2, gl⟩ := FB.all q1
  clear q1
  go_wp2_with (first
    | (go_at_call 58; refine (srcLedger_at S2.out).mono ?_; rintro e w3 ⟨rfl, rfl⟩)
    | (go_at_call 57; refine (HN.out _ L2.out).mono ?_; rintro e w4 ⟨r, b, d, rfl, hrn, hbn, hdn, r4, b4, l4, t4⟩; have s4 := S2.out.turn t4 (by simpa using hpg); have f4 := FB.turn F2.out t4 (by simpa using hgf.symm); have q4 := FB.turn Q2.out t4 (by simpa using hqg); clear d0 d1 d2 y0 y1 yy2 gl)
    | (go_at_call 60; refine (HP.out _ _ _ _ s4 l4 r4 b4).mono ?_; rintro e w5 ⟨y5, l, E5, hor⟩; have f5 := FB.turn f4 E5.T (by simp only [List.mem_cons, List.not_mem_nil, or_false, not_or]; exact ⟨hpf.symm, hgf.symm, Blk.ne_ f4 b4.row (by decide)⟩); have q5 := FB.turn q4 E5.T (by simp only [List.mem_cons, List.not_mem_nil, or_false, not_or]; exact ⟨hqp, hqg, Blk.ne_ q4 b4.row (by decide)⟩); have t5 := (T2.out.next t4 (by simp)).next E5.T (by simp; exact .inr (by omega)); have E6 : PixE w w5 p g r b d W H z l y5 := ⟨E5.L, E5.R, E5.B, E5.len, E5.ok, E5.y1, t5.mono (by simp)⟩; obtain ⟨d0, d1, d2, y0, y1, yy2, gl⟩ := FB.all q5; clear r4 b4 l4 t4 s4 f4 q4; rcases hor with ⟨rfl, a, L, hao, s5, rfl, yr5, hrun⟩ | ⟨k, a, hk, rfl, hrun⟩; all_goals (try (have hk' : ¬ (k : Int) = 0 := by omega))))
  · have E7 := E6.st3 (u := .int .i64 0) (v := .int .i64 0) (e := .int .i64 0) q5 hqn
    have S7 : SrcAt (st3 w5 q (.int .i64 0) (.int .i64 0) (.int .i64 0)) p g s 0 s.size a := Blk.st3 s5 (Blk.ne_ s5 q5 (by decide))
    have Q7 : FB (st3 w5 q (.int .i64 0) (.int .i64 0) (.int .i64 0)) q 0 0 0 := FB.st3 q5
    have F7 : FB (st3 w5 q (.int .i64 0) (.int .i64 0) (.int .i64 0)) w.heap.size 0 0 0 := Blk.st3 f5 hqf
    change Calls _ _ _ (st3 w5 q (.int .i64 0) (.int .i64 0) (.int .i64 0)) _
    generalize (st3 w5 q (.int .i64 0) (.int .i64 0) (.int .i64 0)) = w7 at E7 S7 Q7 F7 ⊢
    clear d0 d1 d2 y0 y1 yy2 gl E6 E5 s5 q5 f5
    refine (qoiTailC (z := z) (W := W) (H := H) (L := L) S7 HSM.out hao E7.L E7.ok yr5).mono ?_
    rintro e w8 ⟨y8, l8, yok8, yb8, t8, hor8⟩
    have n2 : ∀ {tt : TypeId} {cs : Array Value} {k : Nat}, Blk w7 k tt cs → tt ≠ 171 → tt ≠ 116 → k ∉ [p, g] := fun hb h1 h2 => by simp only [List.mem_cons, List.not_mem_nil, or_false, not_or]; exact ⟨Blk.ne_ hb S7 h1, Blk.ne_ hb E7.L h2⟩
    have E8 : PixE w w8 p g r b d W H z (flat L) y8 := ⟨l8, Blk.turn E7.R t8 (n2 E7.R (by decide) (by decide)), E7.B.turn t8 (n2 E7.B.blk (by decide) (by decide)) (n2 E7.B.row (by decide) (by decide)), E7.len, yok8, by rw [yb8]; exact E7.y1, E7.T.trans (t8.mono (by simp))⟩
    have Q8 := FB.turn Q7 t8 (n2 Q7 (by decide) (by decide))
    have F8 := FB.turn F7 t8 (n2 F7 (by decide) (by decide))
    have hrun8 := hrun
    clear E7 S7 Q7 F7 n2 l8 t8 yok8 yb8
    obtain ⟨d0, d1, d2, y0, y1, yy2, gl⟩ := FB.all Q8
    rcases hor8 with ⟨rfl, hr8⟩ | ⟨k, a', hk, rfl, hr8⟩
    · have E9 := E8.st3 (u := .int .i64 0) (v := .int .i64 0) (e := .int .i64 0) Q8 hqn
      have Q9 : FB (st3 w8 q (.int .i64 0) (.int .i64 0) (.int .i64 0)) q 0 0 0 := FB.st3 Q8
      have F9 : FB (st3 w8 q (.int .i64 0) (.int .i64 0) (.int .i64 0)) w.heap.size 0 0 0 := Blk.st3 F8 hqf
      have HR9 := Lib.hid (HD.out.trans (hrun8.symm.trans hr8))
      obtain ⟨c0, c1, c2, z0, z1, z2, fl⟩ := FB.all F8
      go_wp2_with fail
      exact bodyPost_ret (v := .tuple #[.pointer (some ⟨r, 0, none⟩), .agg #[.int .i64 0, .int .i64 0, .int .i64 0]]) (by simp [results, Tryz.results17, go_sem, c0, c1, c2, hqf, hqf']) rfl ⟨y8, Blk.st3 E9.L hgf, E9.ok, Turn.st3 (E9.T.mono (S' := [p, g]) (fun i hi => by simp only [List.mem_cons, List.not_mem_nil, or_false] at hi ⊢; omega)) (.inr hnf), .inr ⟨W, H, flat L, r, b, d, HR9.out, rfl, Blk.st3 E9.R (Blk.ne_ E9.R F9 (by decide)), ⟨Blk.st3 E9.B.blk (Blk.ne_ E9.B.blk F9 (by decide)), Blk.st3 E9.B.row (Blk.ne_ E9.B.row F9 (by decide))⟩, by omega, by omega, by omega⟩⟩
    · have hk' : ¬ (k : Int) = 0 := by omega
      have E9 := E8.st3 (u := .int .i64 (k : Int)) (v := .int .i64 5) (e := .int .i64 (a' : Int)) Q8 hqn
      have Q9 : FB (st3 w8 q (.int .i64 (k : Int)) (.int .i64 5) (.int .i64 (a' : Int))) q (k : Int) 5 (a' : Int) := FB.st3 Q8
      have F9 : FB (st3 w8 q (.int .i64 (k : Int)) (.int .i64 5) (.int .i64 (a' : Int))) w.heap.size 0 0 0 := Blk.st3 F8 hqf
      have HR9 := Lib.hid (HD.out.trans (hrun8.symm.trans hr8))
      go_wp2_with (first
        | (go_at_call 62; refine (rasFree_yes (w := (st3 w8 q (.int .i64 (k : Int)) (.int .i64 5) (.int .i64 (a' : Int)))) E9.R E9.B E9.L E9.ok (give_all E9.len E9.y1)).mono ?_; rintro e w10 ⟨rfl, r10, b10, l10, t10⟩; have F10 := FB.turn F9 t10 (by simp only [List.mem_cons, List.not_mem_nil, or_false, not_or]; exact ⟨Blk.ne_ F9 E9.R (by decide), Blk.ne_ F9 E9.B.blk (by decide), Blk.ne_ F9 E9.L (by decide)⟩); have Q10 := FB.turn Q9 t10 (by simp only [List.mem_cons, List.not_mem_nil, or_false, not_or]; exact ⟨Blk.ne_ Q9 E9.R (by decide), Blk.ne_ Q9 E9.B.blk (by decide), Blk.ne_ Q9 E9.L (by decide)⟩)))
      have T10 : Turn [p, g] w w10 := (E9.T.mono (S' := [p, g]) (fun i hi => by simp only [List.mem_cons, List.not_mem_nil, or_false] at hi ⊢; omega)).next t10 (fun i hi => by simp only [List.mem_cons, List.not_mem_nil, or_false] at hi ⊢; omega)
      have HOK := Lib.hid (E9.ok.give (z : Int))
      have HL := Lib.hid l10
      have HT := Lib.hid T10
      (try clear d0 d1 d2 y0 y1 yy2 gl)
      obtain ⟨c0, c1, c2, z0, z1, z2, fl⟩ := FB.all F10
      obtain ⟨d0, d1, d2, y0, y1, yy2, gl⟩ := FB.all Q10
      clear r10 b10 l10 t10 T10 F10 Q10 E9 Q9 F9
      go_region
      go_wp2_with fail
      exact bodyPost_ret (v := .tuple #[.pointer none, .agg #[.int .i64 (k : Int), .int .i64 5, .int .i64 (a' : Int)]]) (by simp [results, Tryz.results17, go_sem, c0, c1, c2]) rfl ⟨_, (Blk.st3 HL.out hgf).drew, HOK.out, (Turn.st3 HT.out (.inr hnf)).drew, .inl ⟨k, a', hk, HR9.out, rfl⟩⟩
  · have E9 := E6.st3 (u := .int .i64 (k : Int)) (v := .int .i64 5) (e := .int .i64 (a : Int)) q5 hqn
    have Q9 : FB (st3 w5 q (.int .i64 (k : Int)) (.int .i64 5) (.int .i64 (a : Int))) q (k : Int) 5 (a : Int) := FB.st3 q5
    have F9 : FB (st3 w5 q (.int .i64 (k : Int)) (.int .i64 5) (.int .i64 (a : Int))) w.heap.size 0 0 0 := Blk.st3 f5 hqf
    have HR9 := Lib.hid (HD.out.trans hrun)
    go_wp2_with (first
      | (go_at_call 62; refine (rasFree_yes (w := (st3 w5 q (.int .i64 (k : Int)) (.int .i64 5) (.int .i64 (a : Int)))) E9.R E9.B E9.L E9.ok (give_all E9.len E9.y1)).mono ?_; rintro e w10 ⟨rfl, r10, b10, l10, t10⟩; have F10 := FB.turn F9 t10 (by simp only [List.mem_cons, List.not_mem_nil, or_false, not_or]; exact ⟨Blk.ne_ F9 E9.R (by decide), Blk.ne_ F9 E9.B.blk (by decide), Blk.ne_ F9 E9.L (by decide)⟩); have Q10 := FB.turn Q9 t10 (by simp only [List.mem_cons, List.not_mem_nil, or_false, not_or]; exact ⟨Blk.ne_ Q9 E9.R (by decide), Blk.ne_ Q9 E9.B.blk (by decide), Blk.ne_ Q9 E9.L (by decide)⟩)))
    have T10 : Turn [p, g] w w10 := (E9.T.mono (S' := [p, g]) (fun i hi => by simp only [List.mem_cons, List.not_mem_nil, or_false] at hi ⊢; omega)).next t10 (fun i hi => by simp only [List.mem_cons, List.not_mem_nil, or_false] at hi ⊢; omega)
    have HOK := Lib.hid (E9.ok.give (z : Int))
    have HL := Lib.hid l10
    have HT := Lib.hid T10
    (try clear d0 d1 d2 y0 y1 yy2 gl)
    obtain ⟨c0, c1, c2, z0, z1, z2, fl⟩ := FB.all F10
    obtain ⟨d0, d1, d2, y0, y1, yy2, gl⟩ := FB.all Q10
    clear r10 b10 l10 t10 T10 F10 Q10 E9 Q9 F9
    go_region
    go_wp2_with fail
    exact bodyPost_ret (v := .tuple #[.pointer none, .agg #[.int .i64 (k : Int), .int .i64 5, .int .i64 (a : Int)]]) (by simp [results, Tryz.results17, go_sem, c0, c1, c2]) rfl ⟨_, (Blk.st3 HL.out hgf).drew, HOK.out, (Turn.st3 HT.out (.inr hnf)).drew, .inl ⟨k, a, hk, HR9.out, rfl⟩⟩
end Go.Proofs.YtojobfnbakiicaaGreat
namespace Go.Proofs.YtojobfnbakiicaaGreat
open Go.RowKit
set_option linter.unusedVariables false
set_option linter.unusedSimpArgs false

theorem qoiDec_run_no {s : ByteArray} {x y : Led} (e : x.work 1 = (y, false)) (hb : 0 ≤ y.bytes) : (qoiDec s).run x = (y, .bad 4 0) := by
  have hg : (y.give ((0 : Nat) : Int)).1 = y := by
    rw [led_give_yes (by omega) (by omega)]
    cases y; simp
  unfold qoiDec
  rw [run_work_no e, hg]
theorem qoiDec_run_yes {s : ByteArray} {x y : Led} (e : x.work 1 = (y, true)) : (qoiDec s).run x = (if s.size < 14 then Dec.fin (.bad 1 s.size) else match qoiHead s with | some f => .fin (.bad f.1 f.2) | none => qoiBody s (beN s 4 4) (beN s 8 4)).run y := by
  unfold qoiDec
  exact run_work_yes e
theorem qoiDecodeC {w : World} {p g : Nat} {s : ByteArray} {x : Led} (h : SrcAt w p g s 0 s.size 0) (hl : LedAt w g x) (hsm : s.size ≤ 1099511627776) (ok : x.Ok) (hr : x.reason = 0) :
    Calls Tryz.prog 17 #[.pointer (some ⟨p, 0, none⟩)] w fun e w' => DecPost 5 (qoiDec s) x w w' p g e := by
  obtain ⟨y, v, hw⟩ : ∃ y v, x.work 1 = (y, v) := ⟨_, _, rfl⟩
  have yok : y.Ok := by have := ok.work 1; rw [hw] at this; exact this
  cases v with
  | false =>
    have yno := led_work_no (x := x) (n := 1) (by rw [hw]) hr
    rw [hw] at yno
    have yno' : y = x.refused 3 1 := yno
    have yr : y.reason ≠ 0 := by rw [yno']; simp [Led.refused]
    exact qoiDecode_bad h hl yok (by decide) (qoiDec_run_no hw yok.y0) fun w h l => (qoiSides_spent h l ok hw yr).mono fun e w' ⟨a, b, c⟩ => ⟨a, ⟨_, b⟩, c⟩
  | true =>
    obtain ⟨_, yr, _⟩ := led_work_yes (x := x) (n := 1) (by rw [hw])
    rw [hw] at yr
    have yr0 : y.reason = 0 := yr
    have hD := qoiDec_run_yes (s := s) hw
    by_cases hs : s.size < 14
    · rw [if_pos hs] at hD
      exact qoiDecode_bad h hl yok (by decide) hD fun w h l => (qoiSides_short h hsm l ok hw yr0 hs).mono fun e w' ⟨a, b, c⟩ => ⟨a, ⟨_, b⟩, c⟩
    · rw [if_neg hs] at hD
      have hs' : 14 ≤ s.size := by omega
      have hk := qoiHead_is s
      cases hh : qoiHead s with
      | some f =>
        rw [hh] at hD hk
        have hf : f.1 ≠ 0 := by cases hk <;> simp
        exact qoiDecode_bad (k := f.1) (a := f.2) h hl yok hf hD fun w h l => (qoiSides_bad h hsm l ok hw hs' hh hf).mono fun e w' ⟨a, b, c⟩ => ⟨a, ⟨_, b⟩, c⟩
      | none =>
        rw [hh] at hD hk
        obtain ⟨h1, h2, h3, h4⟩ : 1 ≤ beN s 4 4 ∧ beN s 4 4 ≤ 16384 ∧ 1 ≤ beN s 8 4 ∧ beN s 8 4 ≤ 16384 := by cases hk with | ok o a b c d => exact ⟨a, b, c, d⟩
        simp only at hD
        generalize hW : beN s 4 4 = W at hD h1 h2
        generalize hH : beN s 8 4 = H at hD h3 h4
        have HS := fun w (h : SrcAt w p g s 0 s.size 0) (l : LedAt w g x) => qoiSides_ok (W := W) (H := H) h hsm l ok hw hs' hh hW hH
        obtain ⟨y2, v2, hw2⟩ : ∃ y2 v2, y.sides W H = (y2, v2) := ⟨_, _, rfl⟩
        have hN1 : W * H ≤ 16384 * 16384 := Nat.mul_le_mul h2 h4
        unfold qoiBody at hD
        cases v2 with
        | false =>
          obtain ⟨n1, n2⟩ := led_sides_no (x := y) (a := W) (b := H) (by rw [hw2]) yr0
          rw [hw2] at n1
          have y2ok : y2.Ok := by have := yok.sides W H; rw [hw2] at this; exact this
          exact qoiDecode_no h hl y2ok n1 (hD.trans (run_sides_no hw2)) HS fun w l => rasNew_sides ⟨⟨by omega, by omega⟩, ⟨by omega, by omega⟩⟩ l yok hw2
        | true =>
          obtain ⟨n1, _⟩ := led_sides_yes (x := y) (a := W) (b := H) (by rw [hw2])
          rw [hw2] at n1
          have n1' : y2 = y := n1
          subst n1'
          obtain ⟨y3, v3, hw3⟩ : ∃ y3 v3, y2.take ((4 * (W * H) : Nat) : Int) = (y3, v3) := ⟨_, _, rfl⟩
          have hD2 := hD.trans (run_sides_yes hw2)
          cases v3 with
          | false =>
            obtain ⟨m1, m2⟩ := led_take_no (x := y2) (n := ((4 * (W * H) : Nat) : Int)) (by rw [hw3]) yr0
            rw [hw3] at m1
            have y3ok : y3.Ok := by have := yok.take ((4 * (W * H) : Nat) : Int); rw [hw3] at this; exact this
            exact qoiDecode_no h hl y3ok m1 (hD2.trans (run_take_no hw3)) HS fun w l => rasNew_take (y := W * H) (z := 4 * (W * H)) ⟨⟨by omega, by omega⟩, ⟨by omega, by omega⟩⟩ rfl (by omega) (by omega) l yok hw2 hw3
          | true =>
            exact qoiDecode_yes h hsm hs' hl (hD2.trans (run_take_yes hw3)) HS yok yr0 rfl rfl ⟨h1, h2⟩ ⟨h3, h4⟩ hw2 hw3
end Go.Proofs.YtojobfnbakiicaaGreat
