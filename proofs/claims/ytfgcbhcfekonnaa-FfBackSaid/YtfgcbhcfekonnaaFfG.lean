/- HasPrefix; Wide. farbfeld: what a run by a wide budget tells; the document's Decode whole; heads; awake. farbfeld: awake; heads. The law FfDecodes. -/
import Derived.Test.YtfgcbhcfekonnaaRun
import Derived.Test.YtfgcbhcfekonnaaFfE
import Derived.Test.YtfgcbhcfekonnaaFfRef3
import Derived.Test.YtfgcbhcfekonnaaPlain
import Derived.Test.YtfgcbhcfekonnaaRasImg7
namespace Go.Proofs.Ytfgcbhcfekonnaa
open Go.RowKit
set_option linter.unusedVariables false
set_option linter.unusedSimpArgs false

theorem wide15 (w : World) : Calls Try.prog 24 #[] w fun e w' => e = .returned (.agg #[.int .i64 16384, .int .i64 16384, .int .i64 262144, .int .i64 1048576]) ∧ Below w.heap.size w w' := by
  go_enter Try.func24, Try.ntmps24
  go_wp2_with fail
  exact bodyPost_ret (v := .agg #[.int .i64 16384, .int .i64 16384, .int .i64 262144, .int .i64 1048576]) (by simp [results, Try.results24, go_sem]) rfl ⟨rfl, (Below.refl _ _).alloc (Nat.le_refl _) _⟩
theorem hasPrefix0 (s p : ByteArray) (w : World) (hp : p.size ≤ 1000) : Calls Try.prog 96 #[.string s, .string p] w fun e w' => e = .returned (.bool (decide (p.size ≤ s.size ∧ s.extract 0 p.size = p))) ∧ w = w' := by
  by_cases h8 : s.size < p.size
  · have hI : (s.size : Int) < (p.size : Int) := by omega
    rw [decide_eq_false (by omega)]
    go_enter Try.func96, Try.ntmps96
    go_wp2_with fail
    go_ret
    exact ⟨rfl, rfl⟩
  · have hI : ¬ (s.size : Int) < (p.size : Int) := by omega
    have hJ : (p.size : Int) ≤ (s.size : Int) := by omega
    have e : decide (p.size ≤ s.size ∧ s.extract 0 p.size = p) = decide (s.extract 0 p.size = p) := decide_eq_decide.2 ⟨fun h => h.2, fun h => ⟨by omega, h⟩⟩
    rw [e, ← textEq]
    go_enter Try.func96, Try.ntmps96
    go_wp2_with fail
    go_ret
    exact ⟨rfl, rfl⟩
theorem hasPrefix {s p : ByteArray} {b : Bool} (hb : decide (p.size ≤ s.size ∧ s.extract 0 p.size = p) = b) (w : World) (hp : p.size ≤ 1000) : Calls Try.prog 70 #[.string s, .string p] w fun e w' => e = .returned (.bool b) ∧ w = w' := by
  have H := Lib.hid (hasPrefix0 s p w hp)
  rw [hb] at H
  clear hb
  go_enter Try.func70, Try.ntmps70
  go_wp2_with (go_at_call 96; refine H.out.mono ?_; rintro e w' ⟨rfl, rfl⟩)
  go_ret
  exact ⟨rfl, rfl⟩
theorem ffIs {s : ByteArray} {b : Bool} (hb : decide (8 ≤ s.size ∧ s.extract 0 8 = ⟨#[102, 97, 114, 98, 102, 101, 108, 100]⟩) = b) (w : World) : Calls Try.prog 28 #[.string s] w fun e w' => e = .returned (.bool b) ∧ w = w' := by
  have H := Lib.hid (hasPrefix (s := s) (p := ⟨#[102, 97, 114, 98, 102, 101, 108, 100]⟩) hb w (by decide))
  clear hb
  go_enter Try.func28, Try.ntmps28
  go_wp2_with (go_at_call 70; refine H.out.mono ?_; rintro e w' ⟨rfl, rfl⟩)
  go_ret
  exact ⟨rfl, rfl⟩
end Go.Proofs.Ytfgcbhcfekonnaa
namespace Go.Proofs.Ytfgcbhcfekonnaa
open Go.RowKit
set_option linter.unusedVariables false
set_option linter.unusedSimpArgs false

/-- the wide budget -/
def XW : Led := ⟨16384, 16384, 262144, 1048576, 0, 0, 0, 0, 0⟩
theorem XW_new : Led.new 16384 16384 262144 1048576 = XW := rfl
theorem XW_ok : XW.Ok := by constructor <;> decide
theorem DRes.bad_inj {k a k' a' : Nat} (h : DRes.bad k a = .bad k' a') : k = k' ∧ a = a' := by injection h; exact ⟨by assumption, by assumption⟩
theorem told_ne {e : Nat} (d : Dec) : ∀ (b : Nat) {k a : Nat}, d.bal e b → d.told = .bad k a → k ≠ 4 ∧ a ≤ e := by
  induction d with
  | fin r =>
    intro b k a hb h
    unfold Dec.told at h
    subst h
    exact hb.2
  | work n fr a k ih => intro b k a hb h; exact ih _ hb.2.2 h
  | sides W H a k ih => intro b k a hb h; exact ih _ hb.2.2 h
  | take n a k ih => intro b k a hb h; exact ih _ hb.2.2 h
  | give n k ih => intro b k a hb h; exact ih _ hb.2 h
theorem told_img {e : Nat} (d : Dec) : ∀ (b : Nat) {W H : Nat} {l : List UInt8}, d.bal e b → d.told = .img W H l → l.length = 4 * (W * H) := by
  induction d with
  | fin r =>
    intro b W H l hb h
    unfold Dec.told at h
    subst h
    exact hb.2
  | work n fr a k ih => intro b W H l hb h; exact ih _ hb.2.2 h
  | sides W H a k ih => intro b W H l hb h; exact ih _ hb.2.2 h
  | take n a k ih => intro b W H l hb h; exact ih _ hb.2.2 h
  | give n k ih => intro b W H l hb h; exact ih _ hb.2 h
/-- by the wide budget all is told -/
theorem wide_run {d : Dec} {e : Nat} (hb : d.bal e 0) (hm : d.may 262144 16384 16384) (hc : d.cost ≤ 1000000) : ∃ y, d.run XW = (y, d.told) ∧ y.reason = 0 ∧ y.bytes = (d.told.kept : Int) := by
  have h1 := Dec.run_enough d XW e 0 rfl hb rfl hm (by show (0 : Int) + _ ≤ 1048576; omega)
  rcases Dec.run_cases e d 0 XW hb rfl rfl with ⟨a, _, h3, h4, _⟩ | ⟨h3, h4, h5⟩
  · exact absurd h1.2 h4
  · exact ⟨(d.run XW).1, Prod.ext rfl h3, h4, h5⟩
theorem ffPix_told_img {s : ByteArray} {W H z : Nat} {W' H' : Nat} {l : List UInt8} : ∀ n k, (ffPix s W H z n k).told = .img W' H' l → W' = W ∧ H' = H := by
  intro n
  induction n with
  | zero =>
    intro k h
    have h' : DRes.img W H (ffBytes s k) = .img W' H' l := h
    injection h' with a b c
    exact ⟨a.symm, b.symm⟩
  | succ n ih =>
    intro k h
    by_cases hk : 16 + 8 * k + 8 ≤ s.size
    · rw [ffPix_told_yes hk] at h; exact ih _ h
    · rw [ffPix_told_no hk] at h; cases h
theorem ffDec_told (s : ByteArray) : (ffDec s).told = (if s.size < 16 then Dec.fin (.bad 1 s.size) else match ffHead s with | some f => .fin (.bad f.1 f.2) | none => ffBody s (beN s 8 4) (beN s 12 4)).told := rfl
/-- the ways that a file is told -/
inductive FfTold (s : ByteArray) : Prop where
  | short (h : s.size < 16) (t : (ffDec s).told = .bad 1 s.size) (u : ffSides s = (0, 0)) : FfTold s
  | head (h : 16 ≤ s.size) (k a : Nat) (hk : k ≠ 0) (hh : ffHead s = some (k, a)) (t : (ffDec s).told = .bad k a) (u : ffSides s = (0, 0)) : FfTold s
  | body (h : 16 ≤ s.size) (W H : Nat) (hh : ffHead s = none) (hW : beN s 8 4 = W) (hH : beN s 12 4 = H) (w1 : 1 ≤ W) (w2 : W ≤ 16384) (h1 : 1 ≤ H) (h2 : H ≤ 16384) (t : (ffDec s).told = (ffPix s W H (4 * (W * H)) (W * H) 0).told) (u : ffSides s = (W, H)) : FfTold s
theorem ffTold_is (s : ByteArray) : FfTold s := by
  by_cases h : s.size < 16
  · refine .short h ?_ (if_pos h)
    exact (ffDec_told s).trans (by rw [if_pos h]; rfl)
  · cases hh : ffHead s with
    | some f =>
      refine .head (by omega) f.1 f.2 (ffHead_ne hh).1 hh ?_ ?_
      · exact (ffDec_told s).trans (by rw [if_neg h, hh]; rfl)
      · unfold ffSides; rw [if_neg h, hh]
    | none =>
      obtain ⟨a, b, c, d⟩ := ffHead_sides hh
      refine .body (by omega) _ _ hh rfl rfl a b c d ?_ ?_
      · exact (ffDec_told s).trans (by rw [if_neg h, hh]; rfl)
      · unfold ffSides; rw [if_neg h, hh]
theorem refFfDecode {s : ByteArray} (hsm : s.size ≤ 1099511627776) (w : World) : Calls Try.prog 26 #[.string s] w fun e w' => RefPost (ffDec s).told w w' e := by
  cases ffTold_is s with
  | short h t u =>
    rw [t]
    refine (refFfDec_bad hsm w (.inl ⟨h, rfl, rfl⟩)).mono ?_
    rintro e w' ⟨h1, h2⟩
    exact ⟨h2, h1⟩
  | head h k a hk hh t u =>
    rw [t]
    refine (refFfDec_bad hsm w (.inr ⟨h, hh⟩)).mono ?_
    rintro e w' ⟨h1, h2⟩
    exact ⟨h2, h1⟩
  | body h W H hh hW hH w1 w2 h1 h2 t u =>
    rw [t]
    exact refFfDec_ok hsm w h hh hW hH w2 h2 rfl rfl
/-- a run by the wide budget, of a file whose sides are small -/
theorem ffRunW {s : ByteArray} (hsm : s.size ≤ 1099511627776) (hw : (ffSides s).1 ≤ 60) (hh : (ffSides s).2 ≤ 60) (w : World) :
    Calls Try.prog 23 #[.string s, .agg #[.int .i64 16384, .int .i64 16384, .int .i64 262144, .int .i64 1048576], .func (.func 25) #[] #[]] w fun e w' => ∃ g y, LedAt w' g y ∧ y.bytes = ((ffDec s).told.kept : Int) ∧ Below w.heap.size w w' ∧
      ((∃ k a : Nat, k ≠ 0 ∧ (ffDec s).told = .bad k a ∧ e = .returned (.tuple #[.agg #[.int .i64 0, .int .i64 0, .slice none 0 0], .agg #[.int .i64 (k : Int), .int .i64 6, .int .i64 (a : Int)], .pointer (some ⟨g, 0, none⟩)])) ∨
       (∃ (W H : Nat) (l : List UInt8) (d : Nat), (ffDec s).told = .img W H l ∧ e = .returned (.tuple #[.agg #[.int .i64 (W : Int), .int .i64 (H : Int), .slice (some ⟨d, 0, none⟩) l.length l.length], .agg #[.int .i64 0, .int .i64 0, .int .i64 0], .pointer (some ⟨g, 0, none⟩)]) ∧ BytesAt w' (some ⟨d, 0, none⟩) l.length l)) := by
  obtain ⟨hc, hm⟩ := ffDec_enough s hw hh
  obtain ⟨y0, r0, _, rb⟩ := wide_run (ffDec_bal s) hm (by omega)
  refine (run15 (F := 25) (fm := 6) (D := ffDec s) XW_new XW_ok rfl hsm (fun p w => by kernel_rfl) (fun w p g h l => ffDecodeC h l hsm XW_ok rfl) w).mono ?_
  rintro e w' ⟨g, y, l, yok, gn, bl, hor⟩
  rw [r0] at hor
  rcases hor with ⟨k, a, hk, hr, rfl⟩ | ⟨W, H, l', d, hr, rfl, hb⟩
  · injection hr with h1 h2
    exact ⟨g, y, l, by rw [← h1]; exact rb, bl, .inl ⟨k, a, hk, h2, rfl⟩⟩
  · injection hr with h1 h2
    exact ⟨g, y, l, by rw [← h1]; exact rb, bl, .inr ⟨W, H, l', d, h2, rfl, hb⟩⟩
def ffLit : ByteArray := ⟨#[102, 97, 114, 98, 102, 101, 108, 100, 0, 0, 0, 1, 0, 0, 0, 1, 255, 255, 128, 128, 0, 0, 255, 255]⟩
theorem ffLit_told : (ffDec ffLit).told = .img 1 1 [255, 128, 0, 255] := by kernel_rfl
theorem ffLit_sides : ffSides ffLit = (1, 1) := by kernel_rfl
end Go.Proofs.Ytfgcbhcfekonnaa
namespace Go.Proofs.Ytfgcbhcfekonnaa
open Go.RowKit
set_option linter.unusedVariables false
set_option linter.unusedSimpArgs false

theorem ffLit_run (w : World) : Calls Try.prog 23 #[.string ⟨#[102, 97, 114, 98, 102, 101, 108, 100, 0, 0, 0, 1, 0, 0, 0, 1, 255, 255, 128, 128, 0, 0, 255, 255]⟩, .agg #[.int .i64 16384, .int .i64 16384, .int .i64 262144, .int .i64 1048576], .func (.func 25) #[] #[]] w fun e w' => ∃ g d, e = .returned (.tuple #[.agg #[.int .i64 1, .int .i64 1, .slice (some ⟨d, 0, none⟩) 4 4], .agg #[.int .i64 0, .int .i64 0, .int .i64 0], .pointer (some ⟨g, 0, none⟩)]) ∧ BytesAt w' (some ⟨d, 0, none⟩) 4 [255, 128, 0, 255] ∧ Below w.heap.size w w' := by
  refine (ffRunW (s := ffLit) (by decide) (by rw [ffLit_sides]; decide) (by rw [ffLit_sides]; decide) w).mono ?_
  rintro e w' ⟨g, y, l, hb, b, hor⟩
  rw [ffLit_told] at hor
  rcases hor with ⟨k, a, hk, hr, rfl⟩ | ⟨W, H, l', d, hr, rfl, hb⟩
  · cases hr
  · injection hr with h1 h2 h3
    subst h1 h2 h3
    exact ⟨g, d, rfl, hb, b⟩
set_option maxRecDepth 100000 in
theorem awake27_any (w : World) : Calls Try.prog 21 #[] w fun e w' => e = .returned (.bool true) ∧ Below w.heap.size w w' := by
  go_enter Try.func21, Try.ntmps21
  go_wp2_with (first
    | (go_at_call 24; refine (wide15 _).mono ?_; rintro e w1 ⟨rfl, b1⟩)
    | (go_at_call 23; refine (ffLit_run _).mono ?_; rintro e w2 ⟨g, d, rfl, hb, b2⟩; have e1 := bytesText ((hb.alloc (.cells #[.int .i64 1, .int .i64 1, .slice (some ⟨d, 0, none⟩) 4 4] 46)).alloc (.cells #[.int .i64 0, .int .i64 0, .int .i64 0] 54)) 4; rw [show strOf [255, 128, 0, 255] = ⟨#[255, 128, 0, 255]⟩ from rfl] at e1))
  go_ret
  have B := below_next b1 b2
  have B2 := B.alloc B.size (.cells #[.int .i64 1, .int .i64 1, .slice (some ⟨d, 0, none⟩) 4 4] 46)
  exact ⟨rfl, B2.alloc B2.size _⟩
/-- Sides by the wide budget -/
def XW1 : Led := ⟨16384, 16384, 262144, 1048576, 0, 0, 1, 0, 0⟩
theorem XW_work : XW.work 1 = (XW1, true) := rfl
theorem ffSidesW_bad {w : World} {p g k a : Nat} {s : ByteArray} (h : SrcAt w p g s 0 s.size 0) (hsm : s.size ≤ 1099511627776) (l : LedAt w g XW) (hk : (s.size < 16 ∧ k = 1 ∧ a = s.size) ∨ (16 ≤ s.size ∧ k ≠ 0 ∧ ffHead s = some (k, a))) :
    Calls Try.prog 64 #[.pointer (some ⟨p, 0, none⟩)] w fun e w' => e = .returned (.tuple #[.int .i64 0, .int .i64 0, .agg #[.int .i64 (k : Int), .int .i64 6, .int .i64 (a : Int)]]) ∧ Turn [p, g] w w' := by
  rcases hk with ⟨hs, rfl, rfl⟩ | ⟨hs, hk, hh⟩
  · exact (ffSides_short h hsm l XW_ok XW_work rfl hs).mono fun e w' ⟨a, b, c, d⟩ => ⟨a, d⟩
  · exact (ffSides_bad h hsm l XW_ok XW_work hs hh hk).mono fun e w' ⟨a, b, c, d⟩ => ⟨a, d⟩
set_option maxRecDepth 100000 in
set_option maxHeartbeats 2000000 in
theorem heads27_bad {s : ByteArray} {k a : Nat} (hsm : s.size ≤ 1099511627776) (hk : (s.size < 16 ∧ k = 1 ∧ a = s.size) ∨ (16 ≤ s.size ∧ k ≠ 0 ∧ ffHead s = some (k, a))) (u : ffSides s = (0, 0)) (t : (ffDec s).told = .bad k a) (w : World) :
    Calls Try.prog 27 #[.string s] w fun e w' => e = .returned (.bool true) ∧ Below w.heap.size w w' := by
  have HS := Lib.hid (fun w p g h l => ffSidesW_bad (w := w) (p := p) (g := g) h hsm l hk)
  have HR0 := fun w => refFfSides hsm w
  rw [u] at HR0
  have HR := Lib.hid HR0
  have HD0 := fun w => refFfDecode hsm w
  rw [t] at HD0
  have HD := Lib.hid HD0
  clear hk u t HR0 HD0
  go_enter Try.func27, Try.ntmps27
  go_wp2_with (first
    | (go_at_call 24; refine (wide15 _).mono ?_; rintro e w1 ⟨rfl, b1⟩)
    | (go_at_call 8; refine (ledNew_at XW_new _).mono ?_; rintro e w2 ⟨g, rfl, hgn, l2, b2⟩)
    | (go_at_call 63; refine (srcNew_any _ _ _).mono ?_; rintro e w3 ⟨p, rfl, hpn, s3, b3⟩; have l3 := Blk.below l2 b3 (Blk.lt l2))
    | (go_at_call 64; refine (HS.out _ _ _ s3 l3).mono ?_; rintro e w4 ⟨rfl, t4⟩)
    | (go_at_call 22; refine (HR.out _).mono ?_; rintro e w5 ⟨rfl, b5⟩; have f5 : FB w5 w4.heap.size (k : Int) 6 (a : Int) := FB.below (Blk.new _ _ _) b5)
    | (go_at_call 26; refine (HD.out _).mono ?_; rintro e w6 ⟨b6, rfl⟩; have f6 := FB.below f5 b6; obtain ⟨c0, c1, c2, z0, z1, z2, fl⟩ := FB.all f6))
  go_ret
  have B3 := below_next (below_next b1 b2) b3
  have hz1 := b1.size
  have hz2 := b2.size
  have B4 := Turn.belowNext B3 t4 (by simp; omega) B3.size
  have B6 := below_next (below_next (B4.alloc B4.size (.cells #[.int .i64 (k : Int), .int .i64 6, .int .i64 (a : Int)] 54)) b5) b6
  exact ⟨rfl, B6.alloc B6.size _⟩
set_option maxRecDepth 100000 in
set_option maxHeartbeats 2000000 in
theorem heads27_ok {s : ByteArray} {W H : Nat} (hsm : s.size ≤ 1099511627776) (hs : 16 ≤ s.size) (hh : ffHead s = none) (hW : beN s 8 4 = W) (hH : beN s 12 4 = H) (u : ffSides s = (W, H)) (hW1 : 1 ≤ W) (w : World) :
    Calls Try.prog 27 #[.string s] w fun e w' => e = .returned (.bool true) ∧ Below w.heap.size w w' := by
  have HS := Lib.hid (fun w p g h l => (ffSides_ok (w := w) (p := p) (g := g) (x := XW) (y := XW1) h hsm l XW_ok XW_work hs hh hW hH).mono fun e w' ⟨a, b, c, d⟩ => (⟨a, d⟩ : _ ∧ Turn [p, g] w w'))
  have HR0 := fun w => refFfSides hsm w
  rw [u] at HR0
  have HR := Lib.hid HR0
  have hWI : ¬ (W : Int) = 0 := by omega
  clear u HR0 hs hh hW hH
  go_enter Try.func27, Try.ntmps27
  go_wp2_with (first
    | (go_at_call 24; refine (wide15 _).mono ?_; rintro e w1 ⟨rfl, b1⟩)
    | (go_at_call 8; refine (ledNew_at XW_new _).mono ?_; rintro e w2 ⟨g, rfl, hgn, l2, b2⟩)
    | (go_at_call 63; refine (srcNew_any _ _ _).mono ?_; rintro e w3 ⟨p, rfl, hpn, s3, b3⟩; have l3 := Blk.below l2 b3 (Blk.lt l2))
    | (go_at_call 64; refine (HS.out _ _ _ s3 l3).mono ?_; rintro e w4 ⟨rfl, t4⟩)
    | (go_at_call 22; refine (HR.out _).mono ?_; rintro e w5 ⟨rfl, b5⟩; have f5 : FB w5 w4.heap.size 0 0 0 := FB.below (Blk.new _ _ _) b5; obtain ⟨c0, c1, c2, z0, z1, z2, fl⟩ := FB.all f5))
  go_ret
  have B3 := below_next (below_next b1 b2) b3
  have hz1 := b1.size
  have hz2 := b2.size
  have B4 := Turn.belowNext B3 t4 (by simp; omega) B3.size
  exact ⟨rfl, below_next (B4.alloc B4.size (.cells #[.int .i64 0, .int .i64 0, .int .i64 0] 54)) b5⟩
theorem heads27_any {s : ByteArray} (hsm : s.size ≤ 1099511627776) (w : World) :
    Calls Try.prog 27 #[.string s] w fun e w' => e = .returned (.bool true) ∧ Below w.heap.size w w' := by
  cases ffTold_is s with
  | short h t u => exact heads27_bad hsm (.inl ⟨h, rfl, rfl⟩) u t w
  | head h k a hk hh t u => exact heads27_bad hsm (.inr ⟨h, hk, hh⟩) u t w
  | body h W H hh hW hH w1 w2 h1 h2 t u => exact heads27_ok hsm h hh hW hH u w1 w
end Go.Proofs.Ytfgcbhcfekonnaa
namespace Go.Proofs.Ytfgcbhcfekonnaa
open Go.RowKit
set_option linter.unusedVariables false
set_option linter.unusedSimpArgs false

/-- the law's own test of Is -/
theorem ffIs_same (s : ByteArray) : ∃ b : Bool, decide (8 ≤ s.size ∧ s.extract 0 8 = ⟨#[102, 97, 114, 98, 102, 101, 108, 100]⟩) = b ∧ ((s.size < 8 ∧ b = false) ∨ (8 ≤ s.size ∧ ((s.extract 0 8).toList == [102, 97, 114, 98, 102, 101, 108, 100]) = b)) := by
  refine ⟨_, rfl, ?_⟩
  by_cases h : s.size < 8
  · exact .inl ⟨h, decide_eq_false (by omega)⟩
  · refine .inr ⟨by omega, ?_⟩
    have e2 : (⟨#[102, 97, 114, 98, 102, 101, 108, 100]⟩ : ByteArray).toList = [102, 97, 114, 98, 102, 101, 108, 100] := by rw [ByteArray.toList_eq]
    exact ((congrArg (fun L => (s.extract 0 8).toList == L) e2).symm.trans (textEq _ _)).trans (decide_eq_decide.2 ⟨fun e => ⟨by omega, e⟩, fun e => e.2⟩)
set_option maxRecDepth 100000 in
set_option maxHeartbeats 4000000 in
theorem ffDecodes_bad {s : ByteArray} {k a : Nat} (hs : s.size ≤ 900) (hk : k ≠ 0) (u : ffSides s = (0, 0) ∨ ∃ W H, ffSides s = (W, H) ∧ W ≤ 60 ∧ H ≤ 60) (t : (ffDec s).told = .bad k a) (w : World) :
    Calls Try.prog 5 #[.string s] w fun e w' => e = .returned (.bool true) ∧ Below w.heap.size w w' := by
  obtain ⟨W, H, u', hW, hH⟩ : ∃ W H, ffSides s = (W, H) ∧ W ≤ 60 ∧ H ≤ 60 := u.elim (fun e => ⟨0, 0, e, by omega, by omega⟩) id
  have hsI : ¬ (900 : Int) < (s.size : Int) := by omega
  have hWI : ¬ (60 : Int) < (W : Int) := by omega
  have hHI : ¬ (60 : Int) < (H : Int) := by omega
  have hkI : ¬ (k : Int) = 0 := by omega
  have hsm : s.size ≤ 1099511627776 := by omega
  have HR0 := fun w => refFfSides hsm w
  have HN0 := fun w => ffRunW hsm (by rw [u']; exact hW) (by rw [u']; exact hH) w
  have HD0 := fun w => refFfDecode hsm w
  rw [u'] at HR0
  rw [t] at HN0 HD0
  have HR := Lib.hid HR0
  have HN := Lib.hid HN0
  have HD := Lib.hid HD0
  have HH := Lib.hid (fun w => heads27_any hsm w)
  obtain ⟨b, hb1, hb2⟩ := ffIs_same s
  have HI := Lib.hid (fun w => ffIs hb1 w)
  have HB2 := Lib.hid hb2
  clear HR0 HN0 HD0 u u' hW hH t hs hk hb1 hb2 hsm
  go_enter Try.func5, Try.ntmps5
  go_wp2_with (first
    | (go_at_call 22; refine (HR.out _).mono ?_; rintro e w1 ⟨rfl, b1⟩)
    | (go_at_call 24; refine (wide15 _).mono ?_; rintro e w2 ⟨rfl, b2⟩)
    | (go_at_call 23; refine (HN.out _).mono ?_; rintro e w3 ⟨g, y, l3, hy, b3, hor⟩; obtain ⟨k', a', _, hr, rfl⟩ : ∃ k' a' : Nat, k' ≠ 0 ∧ DRes.bad k a = .bad k' a' ∧ e = .returned (.tuple #[.agg #[.int .i64 0, .int .i64 0, .slice none 0 0], .agg #[.int .i64 (k' : Int), .int .i64 6, .int .i64 (a' : Int)], .pointer (some ⟨g, 0, none⟩)]) := hor.elim id (fun ⟨_, _, _, _, h, _⟩ => by cases h); obtain ⟨rfl, rfl⟩ := DRes.bad_inj hr))
  have hy0 : y.bytes = 0 := hy
  have B3 := below_next (below_next b1 b2) b3
  have I4 : IB ((w3.alloc (.cells #[.int .i64 0, .int .i64 0, .slice none 0 0] 46)).alloc (.cells #[.int .i64 (k : Int), .int .i64 6, .int .i64 (a : Int)] 54)) w3.heap.size 0 0 none 0 0 := Blk.alloc (Blk.new _ _ _) _
  have F4 : FB ((w3.alloc (.cells #[.int .i64 0, .int .i64 0, .slice none 0 0] 46)).alloc (.cells #[.int .i64 (k : Int), .int .i64 6, .int .i64 (a : Int)] 54)) (w3.heap.size + 1) (k : Int) 6 (a : Int) := Blk.new_at _ _ _ (by simp)
  have L4 : LedAt ((w3.alloc (.cells #[.int .i64 0, .int .i64 0, .slice none 0 0] 46)).alloc (.cells #[.int .i64 (k : Int), .int .i64 6, .int .i64 (a : Int)] 54)) g y := Blk.alloc (Blk.alloc l3 _) _
  have B4 : Below w.heap.size w ((w3.alloc (.cells #[.int .i64 0, .int .i64 0, .slice none 0 0] 46)).alloc (.cells #[.int .i64 (k : Int), .int .i64 6, .int .i64 (a : Int)] 54)) := (B3.alloc B3.size _).alloc (by have := B3.size; simp; omega) _
  generalize (w3.alloc (.cells #[.int .i64 0, .int .i64 0, .slice none 0 0] 46)).alloc (.cells #[.int .i64 (k : Int), .int .i64 6, .int .i64 (a : Int)] 54) = w4 at I4 F4 L4 B4 ⊢
  generalize w3.heap.size + 1 = qf at F4 ⊢
  generalize w3.heap.size = qm at I4 ⊢
  clear b1 b2 b3 B3 l3 hor
  refine (HD.out _).mono ?_
  rintro e w5 ⟨b5, rfl⟩
  have b6 : Below w5.heap.size w5 (w5.alloc (.cells #[.int .i64 0, .int .i64 0, .slice none 0 0, .int .i64 (k : Int), .int .i64 (a : Int)] 60)) := (Below.refl _ _).alloc (Nat.le_refl _) _
  have R6 : RI (w5.alloc (.cells #[.int .i64 0, .int .i64 0, .slice none 0 0, .int .i64 (k : Int), .int .i64 (a : Int)] 60)) w5.heap.size 0 0 (.slice none 0 0) (k : Int) (a : Int) := Blk.new _ _ _
  rcases HB2.out with ⟨h8, rfl⟩ | ⟨h8, hb⟩
  · have h8I : (s.size : Int) < 8 := by omega
    go_wp2_with (first
      | (go_at_call 27; refine (HH.out _).mono ?_; rintro e w7 ⟨rfl, b7⟩; have F7 : FB w7 qf (k : Int) 6 (a : Int) := FB.below (Blk.alloc (FB.below F4 b5) _) b7; have R7 : RI w7 w5.heap.size 0 0 (.slice none 0 0) (k : Int) (a : Int) := Blk.below R6 b7 (Blk.lt R6); have L5 := Blk.below L4 b5 (Blk.lt L4); have L6 := Blk.alloc L5 (.cells #[.int .i64 0, .int .i64 0, .slice none 0 0, .int .i64 (k : Int), .int .i64 (a : Int)] 60); have L7 : LedAt w7 g y := Blk.below L6 b7 (Blk.lt L6); obtain ⟨c0, c1, c2, z0, z1, z2, fl⟩ := FB.all F7; obtain ⟨d0, d1, d2, d3, d4, y0, y1, y2, y3, y4, dl⟩ := RI.all R7)
      | (go_at_call 28; refine (HI.out _).mono ?_; rintro e w8 ⟨rfl, rfl⟩)
      | (go_at_call 12; refine (bytes_at L7 hy0).mono ?_; rintro e w9 ⟨rfl, rfl⟩)
      | (go_at_call 21; refine (awake27_any _).mono ?_; rintro e w10 ⟨rfl, b10⟩))
    go_ret
    exact ⟨rfl, below_next (below_next (below_next (below_next B4 b5) b6) b7) b10⟩
  · have h8I : ¬ (s.size : Int) < 8 := by omega
    have h8J : (8 : Int) ≤ (s.size : Int) := by omega
    go_wp2_with (first
      | (go_at_call 27; refine (HH.out _).mono ?_; rintro e w7 ⟨rfl, b7⟩; have F7 : FB w7 qf (k : Int) 6 (a : Int) := FB.below (Blk.alloc (FB.below F4 b5) _) b7; have R7 : RI w7 w5.heap.size 0 0 (.slice none 0 0) (k : Int) (a : Int) := Blk.below R6 b7 (Blk.lt R6); have L5 := Blk.below L4 b5 (Blk.lt L4); have L6 := Blk.alloc L5 (.cells #[.int .i64 0, .int .i64 0, .slice none 0 0, .int .i64 (k : Int), .int .i64 (a : Int)] 60); have L7 : LedAt w7 g y := Blk.below L6 b7 (Blk.lt L6); obtain ⟨c0, c1, c2, z0, z1, z2, fl⟩ := FB.all F7; obtain ⟨d0, d1, d2, d3, d4, y0, y1, y2, y3, y4, dl⟩ := RI.all R7)
      | (go_at_call 28; refine (HI.out _).mono ?_; rintro e w8 ⟨rfl, rfl⟩)
      | (go_at_call 12; refine (bytes_at L7 hy0).mono ?_; rintro e w9 ⟨rfl, rfl⟩)
      | (go_at_call 21; refine (awake27_any _).mono ?_; rintro e w10 ⟨rfl, b10⟩))
    go_ret
    exact ⟨rfl, below_next (below_next (below_next (below_next B4 b5) b6) b7) b10⟩
end Go.Proofs.Ytfgcbhcfekonnaa
