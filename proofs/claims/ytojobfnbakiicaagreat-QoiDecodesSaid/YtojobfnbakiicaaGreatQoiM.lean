/- qoi: the document's Decode whole; runs by the wide budget; heads; QoiDecodes of a fault qoi: a run by any budget -/
import Derived.Test.YtojobfnbakiicaaGreatQoiR6
import Derived.Test.YtojobfnbakiicaaGreatQoiS
import Derived.Test.YtojobfnbakiicaaGreatQoiG
import Derived.Test.YtojobfnbakiicaaGreatFfG
import Derived.Test.YtojobfnbakiicaaGreatFfM
namespace Go.Proofs.YtojobfnbakiicaaGreat
open Go.RowKit
set_option linter.unusedVariables false
set_option linter.unusedSimpArgs false

theorem qoiDec_told (s : ByteArray) : (qoiDec s).told = (if s.size < 14 then Dec.fin (.bad 1 s.size) else match qoiHead s with | some f => .fin (.bad f.1 f.2) | none => qoiBody s (beN s 4 4) (beN s 8 4)).told := rfl
/-- the ways that a file is told -/
inductive QoiTold (s : ByteArray) : Prop where
  | short (h : s.size < 14) (t : (qoiDec s).told = .bad 1 s.size) (u : qoiSides s = (0, 0)) : QoiTold s
  | head (h : 14 ≤ s.size) (k a : Nat) (hk : k ≠ 0) (hh : qoiHead s = some (k, a)) (t : (qoiDec s).told = .bad k a) (u : qoiSides s = (0, 0)) : QoiTold s
  | body (h : 14 ≤ s.size) (W H : Nat) (hh : qoiHead s = none) (hW : beN s 4 4 = W) (hH : beN s 8 4 = H) (w1 : 1 ≤ W) (w2 : W ≤ 16384) (h1 : 1 ≤ H) (h2 : H ≤ 16384) (t : (qoiDec s).told = (qoiPix s W H (W * H) (4 * (W * H)) (W * H) 14 q255 qseen []).told) (u : qoiSides s = (W, H)) : QoiTold s
theorem qoiTold_is (s : ByteArray) : QoiTold s := by
  by_cases h : s.size < 14
  · refine .short h ?_ (if_pos h)
    exact (qoiDec_told s).trans (by rw [if_pos h]; rfl)
  · cases hh : qoiHead s with
    | some f =>
      refine .head (by omega) f.1 f.2 (qoiHead_ne hh).1 hh ?_ ?_
      · exact (qoiDec_told s).trans (by rw [if_neg h, hh]; rfl)
      · unfold qoiSides; rw [if_neg h, hh]
    | none =>
      obtain ⟨a, b, c, d⟩ := qoiHead_sides hh
      refine .body (by omega) _ _ hh rfl rfl a b c d ?_ ?_
      · exact (qoiDec_told s).trans (by rw [if_neg h, hh]; rfl)
      · unfold qoiSides; rw [if_neg h, hh]
theorem refQoiDecode {s : ByteArray} (hsm : s.size ≤ 1099511627776) (w : World) : Calls Tryz.prog 18 #[.string s] w fun e w' => RefPost (qoiDec s).told w w' e := by
  cases qoiTold_is s with
  | short h t u =>
    rw [t]
    refine (refQoiDec_bad hsm w (.inl ⟨h, rfl, rfl⟩)).mono ?_
    rintro e w' ⟨h1, h2⟩
    exact ⟨h2, h1⟩
  | head h k a hk hh t u =>
    rw [t]
    refine (refQoiDec_bad hsm w (.inr ⟨h, hh⟩)).mono ?_
    rintro e w' ⟨h1, h2⟩
    exact ⟨h2, h1⟩
  | body h W H hh hW hH w1 w2 h1 h2 t u =>
    rw [t]
    exact refQoiDec_ok hsm w h hh hW hH ⟨w1, w2⟩ ⟨h1, h2⟩ rfl rfl
/-- a run by the wide budget, of a file whose sides are small -/
theorem qoiRunW {s : ByteArray} (hsm : s.size ≤ 1099511627776) (hw : (qoiSides s).1 ≤ 60) (hh : (qoiSides s).2 ≤ 60) (w : World) :
    Calls Tryz.prog 15 #[.string s, .agg #[.int .i64 16384, .int .i64 16384, .int .i64 262144, .int .i64 1048576], .func (.func 17) #[] #[]] w fun e w' => ∃ g y, LedAt w' g y ∧ y.bytes = ((qoiDec s).told.kept : Int) ∧ Below w.heap.size w w' ∧
      ((∃ k a : Nat, k ≠ 0 ∧ (qoiDec s).told = .bad k a ∧ e = .returned (.tuple #[.agg #[.int .i64 0, .int .i64 0, .slice none 0 0], .agg #[.int .i64 (k : Int), .int .i64 5, .int .i64 (a : Int)], .pointer (some ⟨g, 0, none⟩)])) ∨
       (∃ (W H : Nat) (l : List UInt8) (d : Nat), (qoiDec s).told = .img W H l ∧ e = .returned (.tuple #[.agg #[.int .i64 (W : Int), .int .i64 (H : Int), .slice (some ⟨d, 0, none⟩) l.length l.length], .agg #[.int .i64 0, .int .i64 0, .int .i64 0], .pointer (some ⟨g, 0, none⟩)]) ∧ BytesAt w' (some ⟨d, 0, none⟩) l.length l)) := by
  obtain ⟨hc, hm⟩ := qoiDec_enough s hw hh
  obtain ⟨y0, r0, _, rb⟩ := wide_run (qoiDec_bal s) hm (by omega)
  refine (run15 (F := 17) (fm := 5) (D := qoiDec s) XW_new XW_ok rfl hsm (fun p w => by kernel_rfl) (fun w p g h l => qoiDecodeC h l hsm XW_ok rfl) w).mono ?_
  rintro e w' ⟨g, y, l, yok, gn, bl, hor⟩
  rw [r0] at hor
  rcases hor with ⟨k, a, hk, hr, rfl⟩ | ⟨W, H, l', d, hr, rfl, hb⟩
  · injection hr with h1 h2
    exact ⟨g, y, l, by rw [← h1]; exact rb, bl, .inl ⟨k, a, hk, h2, rfl⟩⟩
  · injection hr with h1 h2
    exact ⟨g, y, l, by rw [← h1]; exact rb, bl, .inr ⟨W, H, l', d, h2, rfl, hb⟩⟩
theorem qoiSidesW_bad {w : World} {p g k a : Nat} {s : ByteArray} (h : SrcAt w p g s 0 s.size 0) (hsm : s.size ≤ 1099511627776) (l : LedAt w g XW) (hk : (s.size < 14 ∧ k = 1 ∧ a = s.size) ∨ (14 ≤ s.size ∧ k ≠ 0 ∧ qoiHead s = some (k, a))) :
    Calls Tryz.prog 56 #[.pointer (some ⟨p, 0, none⟩)] w fun e w' => e = .returned (.tuple #[.int .i64 0, .int .i64 0, .agg #[.int .i64 (k : Int), .int .i64 5, .int .i64 (a : Int)]]) ∧ Turn [p, g] w w' := by
  rcases hk with ⟨hs, rfl, rfl⟩ | ⟨hs, hk, hh⟩
  · exact (qoiSides_short h hsm l XW_ok XW_work rfl hs).mono fun e w' ⟨a, b, c, d⟩ => ⟨a, d⟩
  · exact (qoiSides_bad h hsm l XW_ok XW_work hs hh hk).mono fun e w' ⟨a, b, c, d⟩ => ⟨a, d⟩
set_option maxRecDepth 100000 in
set_option maxHeartbeats 2000000 in
theorem heads26_bad {s : ByteArray} {k a : Nat} (hsm : s.size ≤ 1099511627776) (hk : (s.size < 14 ∧ k = 1 ∧ a = s.size) ∨ (14 ≤ s.size ∧ k ≠ 0 ∧ qoiHead s = some (k, a))) (u : qoiSides s = (0, 0)) (t : (qoiDec s).told = .bad k a) (w : World) :
    Calls Tryz.prog 22 #[.string s] w fun e w' => e = .returned (.bool true) ∧ Below w.heap.size w w' := by
  have HS := Lib.hid (fun w p g h l => qoiSidesW_bad (w := w) (p := p) (g := g) h hsm l hk)
  have HR0 := fun w => refQoiSides hsm w
  rw [u] at HR0
  have HR := Lib.hid HR0
  have HD0 := fun w => refQoiDecode hsm w
  rw [t] at HD0
  have HD := Lib.hid HD0
  clear hk u t HR0 HD0
  go_enter Tryz.func22, Tryz.ntmps22
  go_wp2_with (first
    | (go_at_call 16; refine (wide15 _).mono ?_; rintro e w1 ⟨rfl, b1⟩)
    | (go_at_call 53; refine (ledNew_at XW_new _).mono ?_; rintro e w2 ⟨g, rfl, hgn, l2, b2⟩)
    | (go_at_call 54; refine (srcNew_any _ _ _).mono ?_; rintro e w3 ⟨p, rfl, hpn, s3, b3⟩; have l3 := Blk.below l2 b3 (Blk.lt l2))
    | (go_at_call 56; refine (HS.out _ _ _ s3 l3).mono ?_; rintro e w4 ⟨rfl, t4⟩)
    | (go_at_call 21; refine (HR.out _).mono ?_; rintro e w5 ⟨rfl, b5⟩; have f5 : FB w5 w4.heap.size (k : Int) 5 (a : Int) := FB.below (Blk.new _ _ _) b5)
    | (go_at_call 18; refine (HD.out _).mono ?_; rintro e w6 ⟨b6, rfl⟩; have f6 := FB.below f5 b6; obtain ⟨c0, c1, c2, z0, z1, z2, fl⟩ := FB.all f6))
  go_ret
  have B3 := below_next (below_next b1 b2) b3
  have hz1 := b1.size
  have hz2 := b2.size
  have B4 := Turn.belowNext B3 t4 (by simp; omega) B3.size
  have B6 := below_next (below_next (B4.alloc B4.size (.cells #[.int .i64 (k : Int), .int .i64 5, .int .i64 (a : Int)] 31)) b5) b6
  exact ⟨rfl, B6.alloc B6.size _⟩
set_option maxRecDepth 100000 in
set_option maxHeartbeats 2000000 in
theorem heads26_ok {s : ByteArray} {W H : Nat} (hsm : s.size ≤ 1099511627776) (hs : 14 ≤ s.size) (hh : qoiHead s = none) (hW : beN s 4 4 = W) (hH : beN s 8 4 = H) (u : qoiSides s = (W, H)) (hW1 : 1 ≤ W) (w : World) :
    Calls Tryz.prog 22 #[.string s] w fun e w' => e = .returned (.bool true) ∧ Below w.heap.size w w' := by
  have HS := Lib.hid (fun w p g h l => (qoiSides_ok (w := w) (p := p) (g := g) (x := XW) (y := XW1) h hsm l XW_ok XW_work hs hh hW hH).mono fun e w' ⟨a, b, c, d⟩ => (⟨a, d⟩ : _ ∧ Turn [p, g] w w'))
  have HR0 := fun w => refQoiSides hsm w
  rw [u] at HR0
  have HR := Lib.hid HR0
  have hWI : ¬ (W : Int) = 0 := by omega
  clear u HR0 hs hh hW hH
  go_enter Tryz.func22, Tryz.ntmps22
  go_wp2_with (first
    | (go_at_call 16; refine (wide15 _).mono ?_; rintro e w1 ⟨rfl, b1⟩)
    | (go_at_call 53; refine (ledNew_at XW_new _).mono ?_; rintro e w2 ⟨g, rfl, hgn, l2, b2⟩)
    | (go_at_call 54; refine (srcNew_any _ _ _).mono ?_; rintro e w3 ⟨p, rfl, hpn, s3, b3⟩; have l3 := Blk.below l2 b3 (Blk.lt l2))
    | (go_at_call 56; refine (HS.out _ _ _ s3 l3).mono ?_; rintro e w4 ⟨rfl, t4⟩)
    | (go_at_call 21; refine (HR.out _).mono ?_; rintro e w5 ⟨rfl, b5⟩; have f5 : FB w5 w4.heap.size 0 0 0 := FB.below (Blk.new _ _ _) b5; obtain ⟨c0, c1, c2, z0, z1, z2, fl⟩ := FB.all f5))
  go_ret
  have B3 := below_next (below_next b1 b2) b3
  have hz1 := b1.size
  have hz2 := b2.size
  have B4 := Turn.belowNext B3 t4 (by simp; omega) B3.size
  exact ⟨rfl, below_next (B4.alloc B4.size (.cells #[.int .i64 0, .int .i64 0, .int .i64 0] 31)) b5⟩
theorem heads26_any {s : ByteArray} (hsm : s.size ≤ 1099511627776) (w : World) :
    Calls Tryz.prog 22 #[.string s] w fun e w' => e = .returned (.bool true) ∧ Below w.heap.size w w' := by
  cases qoiTold_is s with
  | short h t u => exact heads26_bad hsm (.inl ⟨h, rfl, rfl⟩) u t w
  | head h k a hk hh t u => exact heads26_bad hsm (.inr ⟨h, hk, hh⟩) u t w
  | body h W H hh hW hH w1 w2 h1 h2 t u => exact heads26_ok hsm h hh hW hH u w1 w
/-- the law's own test of Is -/
theorem qoiIs_same (s : ByteArray) : ∃ b : Bool, decide (4 ≤ s.size ∧ s.extract 0 4 = ⟨#[113, 111, 105, 102]⟩) = b ∧ ((s.size < 4 ∧ b = false) ∨ (4 ≤ s.size ∧ ((s.extract 0 4).toList == [113, 111, 105, 102]) = b)) := by
  refine ⟨_, rfl, ?_⟩
  by_cases h : s.size < 4
  · exact .inl ⟨h, decide_eq_false (by omega)⟩
  · refine .inr ⟨by omega, ?_⟩
    have e2 : (⟨#[113, 111, 105, 102]⟩ : ByteArray).toList = [113, 111, 105, 102] := by rw [ByteArray.toList_eq]
    exact ((congrArg (fun L => (s.extract 0 4).toList == L) e2).symm.trans (textEq _ _)).trans (decide_eq_decide.2 ⟨fun e => ⟨by omega, e⟩, fun e => e.2⟩)
set_option maxRecDepth 100000 in
set_option maxHeartbeats 4000000 in
theorem qoiDecodes_bad {s : ByteArray} {k a : Nat} (hs : s.size ≤ 900) (hk : k ≠ 0) (u : qoiSides s = (0, 0) ∨ ∃ W H, qoiSides s = (W, H) ∧ W ≤ 60 ∧ H ≤ 60) (t : (qoiDec s).told = .bad k a) (w : World) :
    Calls Tryz.prog 4 #[.string s] w fun e w' => e = .returned (.bool true) ∧ Below w.heap.size w w' := by
  obtain ⟨W, H, u', hW, hH⟩ : ∃ W H, qoiSides s = (W, H) ∧ W ≤ 60 ∧ H ≤ 60 := u.elim (fun e => ⟨0, 0, e, by omega, by omega⟩) id
  have hsI : ¬ (900 : Int) < (s.size : Int) := by omega
  have hWI : ¬ (60 : Int) < (W : Int) := by omega
  have hHI : ¬ (60 : Int) < (H : Int) := by omega
  have hkI : ¬ (k : Int) = 0 := by omega
  have hsm : s.size ≤ 1099511627776 := by omega
  have HR0 := fun w => refQoiSides hsm w
  have HN0 := fun w => qoiRunW hsm (by rw [u']; exact hW) (by rw [u']; exact hH) w
  have HD0 := fun w => refQoiDecode hsm w
  rw [u'] at HR0
  rw [t] at HN0 HD0
  have HR := Lib.hid HR0
  have HN := Lib.hid HN0
  have HD := Lib.hid HD0
  have HH := Lib.hid (fun w => heads26_any hsm w)
  obtain ⟨b, hb1, hb2⟩ := qoiIs_same s
  have HI := Lib.hid (fun w => qoiIs hb1 w)
  have HB2 := Lib.hid hb2
  clear HR0 HN0 HD0 u u' hW hH t hs hk hb1 hb2 hsm
  go_enter Tryz.func4, Tryz.ntmps4
  go_wp2_with (first
    | (go_at_call 21; refine (HR.out _).mono ?_; rintro e w1 ⟨rfl, b1⟩)
    | (go_at_call 16; refine (wide15 _).mono ?_; rintro e w2 ⟨rfl, b2⟩)
    | (go_at_call 15; refine (HN.out _).mono ?_; rintro e w3 ⟨g, y, l3, hy, b3, hor⟩; obtain ⟨k', a', _, hr, rfl⟩ : ∃ k' a' : Nat, k' ≠ 0 ∧ DRes.bad k a = .bad k' a' ∧ e = .returned (.tuple #[.agg #[.int .i64 0, .int .i64 0, .slice none 0 0], .agg #[.int .i64 (k' : Int), .int .i64 5, .int .i64 (a' : Int)], .pointer (some ⟨g, 0, none⟩)]) := hor.elim id (fun ⟨_, _, _, _, h, _⟩ => by cases h); obtain ⟨rfl, rfl⟩ := DRes.bad_inj hr))
  have hy0 : y.bytes = 0 := hy
  have B3 := below_next (below_next b1 b2) b3
  have I4 : IB ((w3.alloc (.cells #[.int .i64 0, .int .i64 0, .slice none 0 0] 24)).alloc (.cells #[.int .i64 (k : Int), .int .i64 5, .int .i64 (a : Int)] 31)) w3.heap.size 0 0 none 0 0 := Blk.alloc (Blk.new _ _ _) _
  have F4 : FB ((w3.alloc (.cells #[.int .i64 0, .int .i64 0, .slice none 0 0] 24)).alloc (.cells #[.int .i64 (k : Int), .int .i64 5, .int .i64 (a : Int)] 31)) (w3.heap.size + 1) (k : Int) 5 (a : Int) := Blk.new_at _ _ _ (by simp)
  have L4 : LedAt ((w3.alloc (.cells #[.int .i64 0, .int .i64 0, .slice none 0 0] 24)).alloc (.cells #[.int .i64 (k : Int), .int .i64 5, .int .i64 (a : Int)] 31)) g y := Blk.alloc (Blk.alloc l3 _) _
  have B4 : Below w.heap.size w ((w3.alloc (.cells #[.int .i64 0, .int .i64 0, .slice none 0 0] 24)).alloc (.cells #[.int .i64 (k : Int), .int .i64 5, .int .i64 (a : Int)] 31)) := (B3.alloc B3.size _).alloc (by have := B3.size; simp; omega) _
  generalize (w3.alloc (.cells #[.int .i64 0, .int .i64 0, .slice none 0 0] 24)).alloc (.cells #[.int .i64 (k : Int), .int .i64 5, .int .i64 (a : Int)] 31) = w4 at I4 F4 L4 B4 ⊢
  generalize w3.heap.size + 1 = qf at F4 ⊢
  generalize w3.heap.size = qm at I4 ⊢
  clear b1 b2 b3 B3 l3 hor
  refine (HD.out _).mono ?_
  rintro e w5 ⟨b5, rfl⟩
  have b6 : Below w5.heap.size w5 (w5.alloc (.cells #[.int .i64 0, .int .i64 0, .slice none 0 0, .int .i64 (k : Int), .int .i64 (a : Int)] 41)) := (Below.refl _ _).alloc (Nat.le_refl _) _
  have R6 : RI (w5.alloc (.cells #[.int .i64 0, .int .i64 0, .slice none 0 0, .int .i64 (k : Int), .int .i64 (a : Int)] 41)) w5.heap.size 0 0 (.slice none 0 0) (k : Int) (a : Int) := Blk.new _ _ _
  rcases HB2.out with ⟨h8, rfl⟩ | ⟨h8, hb⟩
  · have h8I : (s.size : Int) < 4 := by omega
    go_wp2_with (first
      | (go_at_call 22; refine (HH.out _).mono ?_; rintro e w7 ⟨rfl, b7⟩; have F7 : FB w7 qf (k : Int) 5 (a : Int) := FB.below (Blk.alloc (FB.below F4 b5) _) b7; have R7 : RI w7 w5.heap.size 0 0 (.slice none 0 0) (k : Int) (a : Int) := Blk.below R6 b7 (Blk.lt R6); have L5 := Blk.below L4 b5 (Blk.lt L4); have L6 := Blk.alloc L5 (.cells #[.int .i64 0, .int .i64 0, .slice none 0 0, .int .i64 (k : Int), .int .i64 (a : Int)] 41); have L7 : LedAt w7 g y := Blk.below L6 b7 (Blk.lt L6); obtain ⟨c0, c1, c2, z0, z1, z2, fl⟩ := FB.all F7; obtain ⟨d0, d1, d2, d3, d4, y0, y1, y2, y3, y4, dl⟩ := RI.all R7)
      | (go_at_call 23; refine (HI.out _).mono ?_; rintro e w8 ⟨rfl, rfl⟩)
      | (go_at_call 24; refine (bytes_at L7 hy0).mono ?_; rintro e w9 ⟨rfl, rfl⟩)
      | (go_at_call 12; refine (awake26_any _).mono ?_; rintro e w10 ⟨rfl, b10⟩))
    go_ret
    exact ⟨rfl, below_next (below_next (below_next (below_next B4 b5) b6) b7) b10⟩
  · have h8I : ¬ (s.size : Int) < 4 := by omega
    have h8J : (4 : Int) ≤ (s.size : Int) := by omega
    go_wp2_with (first
      | (go_at_call 22; refine (HH.out _).mono ?_; rintro e w7 ⟨rfl, b7⟩; have F7 : FB w7 qf (k : Int) 5 (a : Int) := FB.below (Blk.alloc (FB.below F4 b5) _) b7; have R7 : RI w7 w5.heap.size 0 0 (.slice none 0 0) (k : Int) (a : Int) := Blk.below R6 b7 (Blk.lt R6); have L5 := Blk.below L4 b5 (Blk.lt L4); have L6 := Blk.alloc L5 (.cells #[.int .i64 0, .int .i64 0, .slice none 0 0, .int .i64 (k : Int), .int .i64 (a : Int)] 41); have L7 : LedAt w7 g y := Blk.below L6 b7 (Blk.lt L6); obtain ⟨c0, c1, c2, z0, z1, z2, fl⟩ := FB.all F7; obtain ⟨d0, d1, d2, d3, d4, y0, y1, y2, y3, y4, dl⟩ := RI.all R7)
      | (go_at_call 23; refine (HI.out _).mono ?_; rintro e w8 ⟨rfl, rfl⟩)
      | (go_at_call 24; refine (bytes_at L7 hy0).mono ?_; rintro e w9 ⟨rfl, rfl⟩)
      | (go_at_call 12; refine (awake26_any _).mono ?_; rintro e w10 ⟨rfl, b10⟩))
    go_ret
    exact ⟨rfl, below_next (below_next (below_next (below_next B4 b5) b6) b7) b10⟩
end Go.Proofs.YtojobfnbakiicaaGreat
namespace Go.Proofs.YtojobfnbakiicaaGreat
open Go.RowKit
set_option linter.unusedVariables false
set_option linter.unusedSimpArgs false

theorem qoiRunG {s : ByteArray} {ba bb bc bd : Int} (hsm : s.size ≤ 1099511627776) (h1 : ba ≤ 9223372036854775807) (h2 : bb ≤ 9223372036854775807) (h3 : bc ≤ 9223372036854775807) (h4 : bd ≤ 9223372036854775807) (w : World) :
    Calls Tryz.prog 15 #[.string s, .agg #[.int .i64 ba, .int .i64 bb, .int .i64 bc, .int .i64 bd], .func (.func 17) #[] #[]] w fun e w' => ∃ g y, LedAt w' g y ∧ y.Ok ∧ y.B = nought bc ∧ y.S = nought bd ∧ Below w.heap.size w w' ∧ AnyRun 5 (qoiDec s) s.size w w' g y e := by
  refine (run15 (F := 17) (fm := 5) (D := qoiDec s) rfl (Led.ok_new h1 h2 h3 h4) rfl hsm (fun p w => by kernel_rfl) (fun w p g h l => qoiDecodeC h l hsm (Led.ok_new h1 h2 h3 h4) rfl) w).mono ?_
  intro e w' h
  exact anyRun (qoiDec_bal s) rfl rfl h
end Go.Proofs.YtojobfnbakiicaaGreat
