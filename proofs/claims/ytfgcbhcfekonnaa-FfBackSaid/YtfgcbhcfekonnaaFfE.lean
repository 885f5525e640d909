/- farbfeld: Decode. farbfeld: Decode, by any budget. -/
import Derived.Test.YtfgcbhcfekonnaaFfD
namespace Go.Proofs.Ytfgcbhcfekonnaa
open Go.RowKit
set_option linter.unusedVariables false
set_option linter.unusedSimpArgs false

/-- what a decoder leaves: as its budget's steps tell -/
def DecPost (fm : Int) (D : Dec) (x : Led) (w w' : World) (p g : Nat) (e : Ending) : Prop :=
  ∃ y, LedAt w' g y ∧ y.Ok ∧ Turn [p, g] w w' ∧
    ((∃ k a : Nat, k ≠ 0 ∧ D.run x = (y, .bad k a) ∧ e = .returned (.tuple #[.pointer none, .agg #[.int .i64 (k : Int), .int .i64 fm, .int .i64 (a : Int)]])) ∨
     (∃ (W H : Nat) (l : List UInt8) (r b d : Nat), D.run x = (y, .img W H l) ∧ e = .returned (.tuple #[.pointer (some ⟨r, 0, none⟩), .agg #[.int .i64 0, .int .i64 0, .int .i64 0]]) ∧ RasAt w' r g b (W : Int) (H : Int) true ∧ BufAt w' b g d l ∧ w.heap.size ≤ r ∧ w.heap.size ≤ b ∧ w.heap.size ≤ d))
set_option maxRecDepth 100000 in
set_option maxHeartbeats 2000000 in
theorem ffDecode_bad {w : World} {p g k a : Nat} {s : ByteArray} {x y : Led} (h : SrcAt w p g s 0 s.size 0) (hl : LedAt w g x) (yok : y.Ok) (hk : k ≠ 0) (hD : (ffDec s).run x = (y, .bad k a))
    (HS : ∀ w, SrcAt w p g s 0 s.size 0 → LedAt w g x → Calls Try.prog 64 #[.pointer (some ⟨p, 0, none⟩)] w fun e w' => e = .returned (.tuple #[.int .i64 0, .int .i64 0, .agg #[.int .i64 (k : Int), .int .i64 6, .int .i64 (a : Int)]]) ∧ (∃ t, SrcAt w' p g s 0 s.size t) ∧ LedAt w' g y ∧ Turn [p, g] w w') :
    Calls Try.prog 25 #[.pointer (some ⟨p, 0, none⟩)] w fun e w' => DecPost 6 (ffDec s) x w w' p g e := by
  have hp := Blk.lt h
  have hg := Blk.lt hl
  have hk' : ¬ (k : Int) = 0 := by omega
  have F0 := FB.new w
  have S0 : SrcAt (w.alloc (.cells #[.int .i64 0, .int .i64 0, .int .i64 0] 54)) p g s 0 s.size 0 := Blk.alloc h _
  have L0 : LedAt (w.alloc (.cells #[.int .i64 0, .int .i64 0, .int .i64 0] 54)) g x := Blk.alloc hl _
  have T0 : Turn [p, g] w (w.alloc (.cells #[.int .i64 0, .int .i64 0, .int .i64 0] 54)) := (Turn.refl _ _).alloc _
  have nf : w.heap.size ∉ [p, g] := by simp; omega
  have HS' := Lib.hid (HS _ S0 L0)
  have HD := Lib.hid hD
  have HK := Lib.hid yok
  clear h hl HS S0 L0 hD yok
  go_enter Try.func25, Try.ntmps25
  go_wp2_with (go_at_call 64; refine HS'.out.mono ?_; rintro e w1 ⟨rfl, ⟨t, s1⟩, l1, t1⟩)
  have f1 : FB (w1.alloc (.cells #[.int .i64 (k : Int), .int .i64 6, .int .i64 (a : Int)] 54)) w.heap.size 0 0 0 := Blk.alloc (FB.turn F0 t1 nf) _
  have g1 : FB (w1.alloc (.cells #[.int .i64 (k : Int), .int .i64 6, .int .i64 (a : Int)] 54)) w1.heap.size (k : Int) 6 (a : Int) := Blk.new _ _ _
  have l2 : LedAt (w1.alloc (.cells #[.int .i64 (k : Int), .int .i64 6, .int .i64 (a : Int)] 54)) g y := Blk.alloc l1 _
  have t2 : Turn [p, g] w (w1.alloc (.cells #[.int .i64 (k : Int), .int .i64 6, .int .i64 (a : Int)] 54)) := (T0.trans t1).alloc _
  generalize w1.alloc (.cells #[.int .i64 (k : Int), .int .i64 6, .int .i64 (a : Int)] 54) = w2 at f1 g1 l2 t2 ⊢
  have hgf : g ≠ w.heap.size := by omega
  have hnf : w.heap.size ≤ w.heap.size := Nat.le_refl _
  generalize w1.heap.size = q at g1 ⊢
  obtain ⟨c0, c1, c2, z0, z1, z2, fl⟩ := FB.all f1
  obtain ⟨d0, d1, d2, y0, y1, y2, gl⟩ := FB.all g1
  have HL := Lib.hid l2
  have HT := Lib.hid t2
  clear F0 T0 nf s1 l1 t1 hp hg f1 g1 l2 t2
  go_region
  go_wp2_with fail
  exact bodyPost_ret (v := .tuple #[.pointer none, .agg #[.int .i64 (k : Int), .int .i64 6, .int .i64 (a : Int)]]) (by simp [results, Try.results25, go_sem, c0, c1, c2]) rfl ⟨y, (Blk.st3 HL.out hgf).drew, HK.out, (Turn.st3 HT.out (.inr hnf)).drew, .inl ⟨k, a, hk, HD.out, rfl⟩⟩
set_option maxRecDepth 100000 in
set_option maxHeartbeats 2000000 in
theorem ffDecode_no {w : World} {p g W H : Nat} {s : ByteArray} {x y y2 : Led} (h : SrcAt w p g s 0 s.size 0) (hl : LedAt w g x) (yok : y2.Ok) (hy : y2.reason ≠ 0) (hD : (ffDec s).run x = (y2, .bad 4 16))
    (HS : ∀ w, SrcAt w p g s 0 s.size 0 → LedAt w g x → Calls Try.prog 64 #[.pointer (some ⟨p, 0, none⟩)] w fun e w' => e = .returned (.tuple #[.int .i64 (W : Int), .int .i64 (H : Int), .agg #[.int .i64 0, .int .i64 0, .int .i64 0]]) ∧ SrcAt w' p g s 0 s.size 16 ∧ LedAt w' g y ∧ Turn [p, g] w w')
    (HN : ∀ w, LedAt w g y → Calls Try.prog 9 #[.pointer (some ⟨g, 0, none⟩), .int .i64 (W : Int), .int .i64 (H : Int)] w fun e w' => e = .returned (.tuple #[.pointer none, .int .i64 4]) ∧ LedAt w' g y2 ∧ Turn [g] w w') :
    Calls Try.prog 25 #[.pointer (some ⟨p, 0, none⟩)] w fun e w' => DecPost 6 (ffDec s) x w w' p g e := by
  have hp := Blk.lt h
  have hg := Blk.lt hl
  have hpg : p ≠ g := h.ne hl
  have F0 := FB.new w
  have S0 : SrcAt (w.alloc (.cells #[.int .i64 0, .int .i64 0, .int .i64 0] 54)) p g s 0 s.size 0 := Blk.alloc h _
  have L0 : LedAt (w.alloc (.cells #[.int .i64 0, .int .i64 0, .int .i64 0] 54)) g x := Blk.alloc hl _
  have T0 : Turn [p, g] w (w.alloc (.cells #[.int .i64 0, .int .i64 0, .int .i64 0] 54)) := (Turn.refl _ _).alloc _
  have nf : w.heap.size ∉ [p, g] := by simp; omega
  have HS' := Lib.hid (HS _ S0 L0)
  have HN' := Lib.hid HN
  have HD := Lib.hid hD
  have HK := Lib.hid yok
  have HY := Lib.hid hy
  clear h hl HS S0 L0 hD yok hy HN
  go_enter Try.func25, Try.ntmps25
  go_wp2_with (go_at_call 64; refine HS'.out.mono ?_; rintro e w1 ⟨rfl, s1, l1, t1⟩)
  have f1 : FB (w1.alloc (.cells #[.int .i64 0, .int .i64 0, .int .i64 0] 54)) w.heap.size 0 0 0 := Blk.alloc (FB.turn F0 t1 nf) _
  have s2 : SrcAt (w1.alloc (.cells #[.int .i64 0, .int .i64 0, .int .i64 0] 54)) p g s 0 s.size 16 := Blk.alloc s1 _
  have l2 : LedAt (w1.alloc (.cells #[.int .i64 0, .int .i64 0, .int .i64 0] 54)) g y := Blk.alloc l1 _
  have t2 : Turn [p, g] w (w1.alloc (.cells #[.int .i64 0, .int .i64 0, .int .i64 0] 54)) := (T0.trans t1).alloc _
  generalize w1.alloc (.cells #[.int .i64 0, .int .i64 0, .int .i64 0] 54) = w2 at f1 s2 l2 t2 ⊢
  have hgf : g ≠ w.heap.size := by omega
  have hnf : w.heap.size ≤ w.heap.size := Nat.le_refl _
  generalize w1.heap.size = q
  have F2 := Lib.hid f1
  have S2 := Lib.hid s2
  have L2 := Lib.hid l2
  have T2 := Lib.hid t2
  clear F0 T0 nf s1 l1 t1 hp hg f1 s2 l2 t2
  refine (srcLedger_at S2.out).mono ?_
  rintro e w3 ⟨rfl, rfl⟩
  go_wp2_with (first
    | (go_at_call 66; refine (srcFault_spent 6 s4 l4 HY.out).mono ?_; rintro e w5 ⟨rfl, b5⟩; have l5 := Blk.below l4 b5 (Blk.lt l4); have t5 := (T2.out.trans (t4.mono (by simp))).trans (Turn.of_below (S := [p, g]) b5); obtain ⟨c0, c1, c2, z0, z1, z2, fl⟩ := FB.all (FB.below (FB.turn F2.out t4 (by simpa using hgf.symm)) b5))
    | (go_at_call 9; refine (HN'.out _ L2.out).mono ?_; rintro e w4 ⟨rfl, l4, t4⟩; have s4 := S2.out.turn t4 (by simpa using hpg)))
  exact bodyPost_ret (v := .tuple #[.pointer none, .agg #[.int .i64 4, .int .i64 6, .int .i64 16]]) (by simp [results, Try.results25, go_sem, c0, c1, c2]) rfl ⟨y2, Blk.st3 l5 hgf, HK.out, Turn.st3 t5 (.inr hnf), .inl ⟨4, 16, by decide, HD.out, rfl⟩⟩
theorem give_all {y : Led} {l : List UInt8} {z : Nat} (h : l.length = z) (hb : (z : Int) ≤ y.bytes) : y.give (l.length : Int) = ((y.give (z : Int)).1, true) := by
  rw [h]
  unfold Led.give
  rw [if_neg (by omega)]
set_option maxRecDepth 100000 in
set_option maxHeartbeats 4000000 in
theorem ffDecode_yes {w : World} {p g W H N z : Nat} {s : ByteArray} {x y y2 : Led} (h : SrcAt w p g s 0 s.size 0) (hsm : s.size ≤ 1099511627776) (hs16 : 16 ≤ s.size) (hl : LedAt w g x) (hD : (ffDec s).run x = (ffPix s W H z N 0).run y2)
    (HS : ∀ w, SrcAt w p g s 0 s.size 0 → LedAt w g x → Calls Try.prog 64 #[.pointer (some ⟨p, 0, none⟩)] w fun e w' => e = .returned (.tuple #[.int .i64 (W : Int), .int .i64 (H : Int), .agg #[.int .i64 0, .int .i64 0, .int .i64 0]]) ∧ SrcAt w' p g s 0 s.size 16 ∧ LedAt w' g y ∧ Turn [p, g] w w')
    (ok : y.Ok) (hr : y.reason = 0) (hN : W * H = N) (hz : 4 * N = z) (hW : 1 ≤ W ∧ W ≤ 16384) (hH : 1 ≤ H ∧ H ≤ 16384) (e1 : y.sides W H = (y, true)) (e2 : y.take (z : Int) = (y2, true)) :
    Calls Try.prog 25 #[.pointer (some ⟨p, 0, none⟩)] w fun e w' => DecPost 6 (ffDec s) x w w' p g e := by
  have hp := Blk.lt h
  have hg := Blk.lt hl
  have hpg : p ≠ g := h.ne hl
  have F0 := FB.new w
  have S0 : SrcAt (w.alloc (.cells #[.int .i64 0, .int .i64 0, .int .i64 0] 54)) p g s 0 s.size 0 := Blk.alloc h _
  have L0 : LedAt (w.alloc (.cells #[.int .i64 0, .int .i64 0, .int .i64 0] 54)) g x := Blk.alloc hl _
  have T0 : Turn [p, g] w (w.alloc (.cells #[.int .i64 0, .int .i64 0, .int .i64 0] 54)) := (Turn.refl _ _).alloc _
  have nf : w.heap.size ∉ [p, g] := by simp; omega
  have HS' := Lib.hid (HS _ S0 L0)
  have HD := Lib.hid hD
  have ok2 : y2.Ok := by have := ok.take (z : Int); rw [e2] at this; exact this
  obtain ⟨_, r2, b2, _⟩ := led_take_yes (x := y) (n := (z : Int)) (by rw [e2])
  rw [e2] at r2 b2
  have hb2 : (z : Int) ≤ y2.bytes := by have h1 : y2.bytes = y.bytes + z := b2; have := ok.y0; omega
  have hN1 : N ≤ 16384 * 16384 := by rw [← hN]; exact Nat.mul_le_mul hW.2 hH.2
  have HN := Lib.hid (fun w (l : LedAt w g y) => rasNew_yes (W := W) (H := H) (y := N) (z := z) ⟨⟨by omega, by omega⟩, ⟨by omega, by omega⟩⟩ hN (by omega) (by omega) l ok e1 e2)
  have HP := Lib.hid (fun w r b d (S0 : SrcAt w p g s 0 s.size 16) (L0 : LedAt w g y2) (R0 : RasAt w r g b (W : Int) (H : Int) true) (B0 : BufAt w b g d (List.replicate z 0)) => ffPixels S0 hsm hs16 L0 ok2 r2 R0 B0 hb2 hN hz hW hH)
  clear h hl HS S0 L0 hD ok hr hN hz hW hH e1 e2 r2 b2 hb2 ok2
  go_enter Try.func25, Try.ntmps25
  go_wp2_with (go_at_call 64; refine HS'.out.mono ?_; rintro e w1 ⟨rfl, s1, l1, t1⟩)
  have f1 : FB (w1.alloc (.cells #[.int .i64 0, .int .i64 0, .int .i64 0] 54)) w.heap.size 0 0 0 := Blk.alloc (FB.turn F0 t1 nf) _
  have s2 : SrcAt (w1.alloc (.cells #[.int .i64 0, .int .i64 0, .int .i64 0] 54)) p g s 0 s.size 16 := Blk.alloc s1 _
  have l2 : LedAt (w1.alloc (.cells #[.int .i64 0, .int .i64 0, .int .i64 0] 54)) g y := Blk.alloc l1 _
  have t2 : Turn [p, g] w (w1.alloc (.cells #[.int .i64 0, .int .i64 0, .int .i64 0] 54)) := (T0.trans t1).alloc _
  generalize w1.alloc (.cells #[.int .i64 0, .int .i64 0, .int .i64 0] 54) = w2 at f1 s2 l2 t2 ⊢
  have hgf : g ≠ w.heap.size := by omega
  have hpf : p ≠ w.heap.size := by omega
  have hsz2 : w.heap.size ≤ w2.heap.size := t2.size
  have hnf : w.heap.size ≤ w.heap.size := Nat.le_refl _
  generalize w1.heap.size = q
  have F2 := Lib.hid f1
  have S2 := Lib.hid s2
  have L2 := Lib.hid l2
  have T2 := Lib.hid t2
  clear F0 T0 nf s1 l1 t1 hp hg f1 s2 l2 t2
  refine (srcLedger_at S2.out).mono ?_
  rintro e w3 ⟨rfl, rfl⟩
  go_wp2_with (first
    | (go_at_call 9; refine (HN.out _ L2.out).mono ?_; rintro e w4 ⟨r, b, d, rfl, hrn, hbn, hdn, r4, b4, l4, t4⟩; have s4 := S2.out.turn t4 (by simpa using hpg); have f4 := FB.turn F2.out t4 (by simpa using hgf.symm); have nfd : w.heap.size ∉ [p, g, d] := by simp only [List.mem_cons, List.not_mem_nil, or_false, not_or]; exact ⟨hpf.symm, hgf.symm, Blk.ne_ f4 b4.row (by decide)⟩)
    | (go_at_call 67; refine (HP.out _ _ _ _ s4 l4 r4 b4).mono ?_; rintro e w5 ⟨y5, l, E5, hor⟩; have f5 := FB.turn f4 E5.T nfd; have t5 := (T2.out.next t4 (by simp)).next E5.T (by simp; exact .inr (by omega)); have HE := Lib.hid (And.intro E5 (And.intro f5 t5)); have fl5 := Blk.lt f5; clear r4 b4 l4 t4 s4 f4; obtain ⟨c0, c1, c2, z0, z1, z2, fl⟩ := FB.all f5; rcases hor with ⟨rfl, hrun⟩ | ⟨k, a, hk, rfl, hrun⟩; all_goals (try (have hk' : ¬ (k : Int) = 0 := by omega)))
    | (go_at_call 53; refine (rasFree_yes (Blk.alloc HE.out.1.R _) ⟨Blk.alloc HE.out.1.B.blk _, Blk.alloc HE.out.1.B.row _⟩ (Blk.alloc HE.out.1.L _) HE.out.1.ok (give_all HE.out.1.len HE.out.1.y1)).mono ?_; rintro e w6 ⟨rfl, r6, b6, l6, t6⟩; have f6 := FB.turn (Blk.alloc HE.out.2.1 (.cells #[.int .i64 (k : Int), .int .i64 6, .int .i64 (a : Int)] 54)) t6 (by simp only [List.mem_cons, List.not_mem_nil, or_false, not_or]; exact ⟨Blk.ne_ HE.out.2.1 HE.out.1.R (by decide), Blk.ne_ HE.out.2.1 HE.out.1.B.blk (by decide), Blk.ne_ HE.out.2.1 HE.out.1.L (by decide)⟩)))
  · obtain ⟨E5, f5, t5⟩ := HE.out
    have hrun' := HD.out.trans hrun
    exact bodyPost_ret (v := .tuple #[.pointer (some ⟨r, 0, none⟩), .agg #[.int .i64 0, .int .i64 0, .int .i64 0]]) (by have fl2 := Nat.ne_of_lt fl; simp [results, Try.results25, go_sem, c0, c1, c2, fl, fl2]) rfl ⟨y5, Blk.alloc (Blk.st3 E5.L hgf) _, E5.ok, (Turn.st3 t5 (.inr hnf)).alloc _, .inr ⟨W, H, l, r, b, d, hrun', rfl, Blk.alloc (Blk.st3 E5.R (Blk.ne_ E5.R f5 (by decide))) _, ⟨Blk.alloc (Blk.st3 E5.B.blk (Blk.ne_ E5.B.blk f5 (by decide))) _, Blk.alloc (Blk.st3 E5.B.row (Blk.ne_ E5.B.row f5 (by decide))) _⟩, by omega, by omega, by omega⟩⟩
  · have hrun' := Lib.hid (HD.out.trans hrun)
    have nq6 : w5.heap.size ∉ [r, b, g] := by
      have h1 := Blk.lt HE.out.1.R
      have h2 := Blk.lt HE.out.1.B.blk
      have h3 := Blk.lt HE.out.1.L
      simp only [List.mem_cons, List.not_mem_nil, or_false, not_or]
      omega
    have q6 : FB w6 w5.heap.size (k : Int) 6 (a : Int) := Blk.turn (Blk.new _ _ _) t6 nq6
    have T6 : Turn [p, g] w w6 := (HE.out.2.2.alloc _).next t6 (by simp; omega)
    have HL6 := Lib.hid l6
    have HT6 := Lib.hid T6
    clear c0 c1 c2 z0 z1 z2 fl
    obtain ⟨c0, c1, c2, z0, z1, z2, fl⟩ := FB.all f6
    obtain ⟨d0, d1, d2, y0, y1, yy2, gl⟩ := FB.all q6
    have HOK := Lib.hid HE.out.1.ok
    generalize w5.heap.size = qq at *
    clear r6 b6 l6 t6 q6 T6 f6 HE hrun nq6 nfd
    go_region
    go_wp2_with fail
    exact bodyPost_ret (v := .tuple #[.pointer none, .agg #[.int .i64 (k : Int), .int .i64 6, .int .i64 (a : Int)]]) (by simp [results, Try.results25, go_sem, c0, c1, c2]) rfl ⟨_, (Blk.st3 HL6.out hgf).drew, HOK.out.give _, (Turn.st3 HT6.out (.inr hnf)).drew, .inl ⟨k, a, hk, hrun'.out, rfl⟩⟩
end Go.Proofs.Ytfgcbhcfekonnaa
namespace Go.Proofs.Ytfgcbhcfekonnaa
open Go.RowKit
set_option linter.unusedVariables false
set_option linter.unusedSimpArgs false

theorem ffDec_run_no {s : ByteArray} {x y : Led} (e : x.work 1 = (y, false)) (hb : 0 ≤ y.bytes) : (ffDec s).run x = (y, .bad 4 0) := by
  have hg : (y.give ((0 : Nat) : Int)).1 = y := by
    rw [led_give_yes (by omega) (by omega)]
    cases y; simp
  unfold ffDec
  rw [run_work_no e, hg]
theorem ffDec_run_yes {s : ByteArray} {x y : Led} (e : x.work 1 = (y, true)) : (ffDec s).run x = (if s.size < 16 then Dec.fin (.bad 1 s.size) else match ffHead s with | some f => .fin (.bad f.1 f.2) | none => ffBody s (beN s 8 4) (beN s 12 4)).run y := by
  unfold ffDec
  exact run_work_yes e
theorem ffDecodeC {w : World} {p g : Nat} {s : ByteArray} {x : Led} (h : SrcAt w p g s 0 s.size 0) (hl : LedAt w g x) (hsm : s.size ≤ 1099511627776) (ok : x.Ok) (hr : x.reason = 0) :
    Calls Try.prog 25 #[.pointer (some ⟨p, 0, none⟩)] w fun e w' => DecPost 6 (ffDec s) x w w' p g e := by
  obtain ⟨y, v, hw⟩ : ∃ y v, x.work 1 = (y, v) := ⟨_, _, rfl⟩
  have yok : y.Ok := by have := ok.work 1; rw [hw] at this; exact this
  cases v with
  | false =>
    have yno := led_work_no (x := x) (n := 1) (by rw [hw]) hr
    rw [hw] at yno
    have yno' : y = x.refused 3 1 := yno
    have yr : y.reason ≠ 0 := by rw [yno']; simp [Led.refused]
    exact ffDecode_bad h hl yok (by decide) (ffDec_run_no hw yok.y0) fun w h l => (ffSides_spent h l ok hw yr).mono fun e w' ⟨a, b, c⟩ => ⟨a, ⟨_, b⟩, c⟩
  | true =>
    obtain ⟨_, yr, _⟩ := led_work_yes (x := x) (n := 1) (by rw [hw])
    rw [hw] at yr
    have yr0 : y.reason = 0 := yr
    have hD := ffDec_run_yes (s := s) hw
    by_cases hs : s.size < 16
    · rw [if_pos hs] at hD
      exact ffDecode_bad h hl yok (by decide) hD fun w h l => (ffSides_short h hsm l ok hw yr0 hs).mono fun e w' ⟨a, b, c⟩ => ⟨a, ⟨_, b⟩, c⟩
    · rw [if_neg hs] at hD
      have hs' : 16 ≤ s.size := by omega
      have hk := ffHead_is s
      cases hh : ffHead s with
      | some f =>
        rw [hh] at hD hk
        have hf : f.1 ≠ 0 := by cases hk <;> simp
        exact ffDecode_bad (k := f.1) (a := f.2) h hl yok hf hD fun w h l => (ffSides_bad h hsm l ok hw hs' hh hf).mono fun e w' ⟨a, b, c⟩ => ⟨a, ⟨_, b⟩, c⟩
      | none =>
        rw [hh] at hD hk
        obtain ⟨h1, h2, h3, h4⟩ : 1 ≤ beN s 8 4 ∧ beN s 8 4 ≤ 16384 ∧ 1 ≤ beN s 12 4 ∧ beN s 12 4 ≤ 16384 := by cases hk with | ok o a b c d => exact ⟨a, b, c, d⟩
        simp only at hD
        generalize hW : beN s 8 4 = W at hD h1 h2
        generalize hH : beN s 12 4 = H at hD h3 h4
        have HS := fun w (h : SrcAt w p g s 0 s.size 0) (l : LedAt w g x) => ffSides_ok (W := W) (H := H) h hsm l ok hw hs' hh hW hH
        obtain ⟨y2, v2, hw2⟩ : ∃ y2 v2, y.sides W H = (y2, v2) := ⟨_, _, rfl⟩
        have hN1 : W * H ≤ 16384 * 16384 := Nat.mul_le_mul h2 h4
        unfold ffBody at hD
        cases v2 with
        | false =>
          obtain ⟨n1, n2⟩ := led_sides_no (x := y) (a := W) (b := H) (by rw [hw2]) yr0
          rw [hw2] at n1
          have y2ok : y2.Ok := by have := yok.sides W H; rw [hw2] at this; exact this
          exact ffDecode_no h hl y2ok n1 (hD.trans (run_sides_no hw2)) HS fun w l => rasNew_sides ⟨⟨by omega, by omega⟩, ⟨by omega, by omega⟩⟩ l yok hw2
        | true =>
          obtain ⟨n1, _⟩ := led_sides_yes (x := y) (a := W) (b := H) (by rw [hw2])
          rw [hw2] at n1
          have n1' : y2 = y := n1
          subst n1'
          obtain ⟨y3, v3, hw3⟩ : ∃ y3 v3, y2.take ((4 * (W * H) : Nat) : Int) = (y3, v3) := ⟨_, _, rfl⟩
          have hD2 := hD.trans (run_sides_yes hw2)
          cases v3 with
          | false =>
            obtain ⟨m1, m2⟩ := led_take_no (x := y2) (n := ((4 * (W * H) : Nat) : Int)) (by rw [hw3]) yr0
            rw [hw3] at m1
            have y3ok : y3.Ok := by have := yok.take ((4 * (W * H) : Nat) : Int); rw [hw3] at this; exact this
            exact ffDecode_no h hl y3ok m1 (hD2.trans (run_take_no hw3)) HS fun w l => rasNew_take (y := W * H) (z := 4 * (W * H)) ⟨⟨by omega, by omega⟩, ⟨by omega, by omega⟩⟩ rfl (by omega) (by omega) l yok hw2 hw3
          | true =>
            exact ffDecode_yes h hsm hs' hl (hD2.trans (run_take_yes hw3)) HS yok yr0 rfl rfl ⟨h1, h2⟩ ⟨h3, h4⟩ hw2 hw3
end Go.Proofs.Ytfgcbhcfekonnaa
