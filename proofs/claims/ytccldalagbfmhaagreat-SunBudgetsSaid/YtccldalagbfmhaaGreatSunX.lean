/- sun: the ways that a file is told; Is; the example The document's Decode of a file of Sun's, whole. The program's Read of a file of Sun's; its heads are the document's. sun: runs by the wide budget, by any budget; the law SunDecodes of a fault -/
import Derived.Test.YtccldalagbfmhaaGreatSunLaw
import Derived.Test.YtccldalagbfmhaaGreatSunPackW
import Derived.Test.YtccldalagbfmhaaGreatFfG
import Derived.Test.YtccldalagbfmhaaGreatSunWb
import Derived.Test.YtccldalagbfmhaaGreatSunS
import Derived.Test.YtccldalagbfmhaaGreatFfM
namespace Go.Proofs.YtccldalagbfmhaaGreat
open Go.RowKit
set_option linter.unusedVariables false
set_option linter.unusedSimpArgs false

/-- the ways that a file is told -/
inductive SunTold (s : ByteArray) : Prop where
  | short (h : s.size < 32) (t : (sunDec s).told = .bad 1 s.size) (u : sunSides s = (0, 0)) : SunTold s
  | head (h : 32 ≤ s.size) (k a : Nat) (hk : k ≠ 0) (hh : sunHead s = some (k, a)) (t : (sunDec s).told = .bad k a) (u : sunSides s = (0, 0)) : SunTold s
  | body (h : 32 ≤ s.size) (W H : Nat) (hh : sunHead s = none) (hW : beN s 4 4 = W) (hH : beN s 8 4 = H) (w1 : 1 ≤ W) (w2 : W ≤ 16384) (h1 : 1 ≤ H) (h2 : H ≤ 16384) (t : (sunDec s).told = if 32 + 3 * (sunHd s).n ≤ s.size then sunPix2 s (sunHd s) (sunZ s (sunHd s)) (W * H) 0 [] else .bad 1 s.size) (u : sunSides s = (W, H)) : SunTold s
theorem sunTold_is (s : ByteArray) : SunTold s := by
  by_cases h : s.size < 32
  · refine .short h ?_ (if_pos h)
    rw [sunDec_told, if_pos h]
  · cases hh : sunHead s with
    | some f =>
      refine .head (by omega) f.1 f.2 (sunHead_some hh).1 hh ?_ ?_
      · rw [sunDec_told, if_neg h, hh]
      · unfold sunSides; rw [if_neg h, hh]
    | none =>
      obtain ⟨_, ok, _, _⟩ := sunHead_none hh
      refine .body (by omega) _ _ hh rfl rfl ok.w1 ok.w2 ok.h1 ok.h2 ?_ ?_
      · rw [sunDec_told, if_neg h, hh]; rfl
      · unfold sunSides; rw [if_neg h, hh]
theorem sunPix2_ways {s : ByteArray} {h : SunHd} {Z : List (Nat × Nat)} : ∀ n k L, (∃ k' b : Nat, k' ≠ 0 ∧ sunPix2 s h Z n k L = .bad k' b) ∨ ∃ l, sunPix2 s h Z n k L = .img h.W h.H l := by
  intro n
  induction n with
  | zero =>
    intro k L
    unfold sunPix2
    split
    · exact .inl ⟨1, _, by decide, rfl⟩
    · exact .inr ⟨_, rfl⟩
  | succ n ih =>
    intro k L
    unfold sunPix2
    split
    · exact .inl ⟨1, _, by decide, rfl⟩
    · split
      · exact ih _ _
      · exact .inl ⟨2, _, by decide, rfl⟩
theorem sunTold_ways {s : ByteArray} {W H : Nat} (hW : beN s 4 4 = W) (hH : beN s 8 4 = H) (t : (sunDec s).told = if 32 + 3 * (sunHd s).n ≤ s.size then sunPix2 s (sunHd s) (sunZ s (sunHd s)) (W * H) 0 [] else .bad 1 s.size) :
    (∃ k a : Nat, k ≠ 0 ∧ (sunDec s).told = .bad k a) ∨ ∃ l, (sunDec s).told = .img W H l := by
  rw [t]
  split
  · have h := sunPix2_ways (s := s) (h := sunHd s) (Z := sunZ s (sunHd s)) (W * H) 0 []
    have e1 : (sunHd s).W = W := hW
    have e2 : (sunHd s).H = H := hH
    rw [e1, e2] at h
    exact h
  · exact .inl ⟨1, _, by decide, rfl⟩
theorem awake29_any (w : World) : Calls Tryz.prog 13 #[] w fun e w' => e = .returned (.bool true) ∧ Below w.heap.size w w' := sunAwake w
theorem sunIs {s : ByteArray} {b : Bool} (hb : decide (4 ≤ s.size ∧ s.extract 0 4 = ⟨#[89, 166, 106, 149]⟩) = b) (w : World) : Calls Tryz.prog 26 #[.string s] w fun e w' => e = .returned (.bool b) ∧ w = w' := by
  have H := Lib.hid (hasPrefix (s := s) (p := ⟨#[89, 166, 106, 149]⟩) hb w (by decide))
  clear hb
  go_enter Tryz.func26, Tryz.ntmps26
  go_wp2_with (go_at_call 72; refine H.out.mono ?_; rintro e w' ⟨rfl, rfl⟩)
  go_ret
  exact ⟨rfl, rfl⟩
end Go.Proofs.YtccldalagbfmhaaGreat
namespace Go.Proofs.YtccldalagbfmhaaGreat
open Go.RowKit
set_option linter.unusedVariables false
set_option linter.unusedSimpArgs false

set_option maxHeartbeats 2000000 in
theorem refSunDec_bad {s : ByteArray} {k a : Nat} (hk : k ≠ 0) (hsm : s.size ≤ 1099511627776) (hR : sunRdV s = hdV 0 0 0 0 0 (k : Int) (a : Int)) (w : World) :
    Calls Tryz.prog 24 #[.string s] w fun e w' => e = .returned (.agg #[.int .i64 0, .int .i64 0, .slice none 0 0, .int .i64 (k : Int), .int .i64 (a : Int)]) ∧ Below w.heap.size w w' := by
  obtain ⟨F0, B0⟩ := ri_new w
  have HR := Lib.hid (fun w => refSunReadC hsm w)
  rw [hR] at HR
  unfold hdV hd7 at HR
  have hkI : ¬ (k : Int) = 0 := by omega
  clear hR
  go_enter Tryz.func24, Tryz.ntmps24
  go_wp2_with (first
    | (go_at_call 58; refine (HR.out _).mono ?_; rintro e w1 ⟨rfl, b1⟩; have A1 : RI (w1.alloc (.cells #[.int .i64 0, .int .i64 0, .int .i64 0, .int .i64 0, .int .i64 0, .int .i64 (k : Int), .int .i64 (a : Int)] 93)) w.heap.size 0 0 (.slice none 0 0) 0 0 := Blk.alloc (Blk.below F0 b1 (Blk.lt F0)) _; have B1 : Below w.heap.size w (w1.alloc (.cells #[.int .i64 0, .int .i64 0, .int .i64 0, .int .i64 0, .int .i64 0, .int .i64 (k : Int), .int .i64 (a : Int)] 93)) := (below_next B0 b1).alloc (below_next B0 b1).size _)
    | (go_at_call 67; refine (refBadC _ _ _).mono ?_; rintro e w5 ⟨rfl, b5⟩; have f5 : RI w5 w.heap.size 0 0 (.slice none 0 0) 0 0 := Blk.below A1 b5 (Blk.lt A1); obtain ⟨c0, c1, c2, c3, c4, z0, z1, z2, z3, z4, fl⟩ := RI.all f5))
  exact bodyPost_ret (v := .agg #[.int .i64 0, .int .i64 0, .slice none 0 0, .int .i64 (k : Int), .int .i64 (a : Int)]) (by simp [results, Tryz.results24, go_sem, c0, c1, c2, c3, c4]) rfl ⟨rfl, Below.st5 (below_next B1 b5) (Nat.le_refl _)⟩
set_option maxHeartbeats 2000000 in
theorem refSunDec_cut {s : ByteArray} {W H d t n : Nat} (hn : n ≤ 256) (hc : ¬ 32 + 3 * n ≤ s.size) (hsm : s.size ≤ 1099511627776) (hR : sunRdV s = hdV (W : Int) (H : Int) (d : Int) (t : Int) (n : Int) 0 0) (w : World) :
    Calls Tryz.prog 24 #[.string s] w fun e w' => e = .returned (.agg #[.int .i64 0, .int .i64 0, .slice none 0 0, .int .i64 1, .int .i64 (s.size : Int)]) ∧ Below w.heap.size w w' := by
  obtain ⟨F0, B0⟩ := ri_new w
  have HR := Lib.hid (fun w => refSunReadC hsm w)
  rw [hR] at HR
  unfold hdV hd7 at HR
  obtain ⟨a0, ha0⟩ : ∃ a, 32 + 3 * n = a := ⟨_, rfl⟩
  have ha0I : 32 + 3 * (n : Int) = (a0 : Int) := by omega
  have ha0s : (s.size : Int) < (a0 : Int) := by omega
  have ha0N : s.size < a0 := by omega
  clear hc ha0
  clear hR
  go_enter Tryz.func24, Tryz.ntmps24
  go_wp2_with (first
    | (go_at_call 58; refine (HR.out _).mono ?_; rintro e w1 ⟨rfl, b1⟩; have A1 : RI (w1.alloc (.cells #[.int .i64 (W : Int), .int .i64 (H : Int), .int .i64 (d : Int), .int .i64 (t : Int), .int .i64 (n : Int), .int .i64 0, .int .i64 0] 93)) w.heap.size 0 0 (.slice none 0 0) 0 0 := Blk.alloc (Blk.below F0 b1 (Blk.lt F0)) _; have B1 : Below w.heap.size w (w1.alloc (.cells #[.int .i64 (W : Int), .int .i64 (H : Int), .int .i64 (d : Int), .int .i64 (t : Int), .int .i64 (n : Int), .int .i64 0, .int .i64 0] 93)) := (below_next B0 b1).alloc (below_next B0 b1).size _)
    | (go_at_call 67; refine (refBadC _ _ _).mono ?_; rintro e w5 ⟨rfl, b5⟩; have f5 : RI w5 w.heap.size 0 0 (.slice none 0 0) 0 0 := Blk.below A1 b5 (Blk.lt A1); obtain ⟨c0, c1, c2, c3, c4, z0, z1, z2, z3, z4, fl⟩ := RI.all f5))
  exact bodyPost_ret (v := .agg #[.int .i64 0, .int .i64 0, .slice none 0 0, .int .i64 1, .int .i64 (s.size : Int)]) (by simp [results, Tryz.results24, go_sem, c0, c1, c2, c3, c4]) rfl ⟨rfl, Below.st5 (below_next B1 b5) (Nat.le_refl _)⟩
theorem refSunDecode {s : ByteArray} (hsm : s.size ≤ 1099511627776) (w : World) : Calls Tryz.prog 24 #[.string s] w fun e w' => RefPost (sunDec s).told w w' e := by
  cases sunTold_is s with
  | short h t u =>
    rw [t]
    refine (refSunDec_bad (k := 1) (a := s.size) (by decide) hsm (by unfold sunRdV; rw [if_pos h]; rfl) w).mono ?_
    rintro e w' ⟨h1, h2⟩
    exact ⟨h2, h1⟩
  | head h k a hk hh t u =>
    rw [t]
    refine (refSunDec_bad (k := k) (a := a) hk hsm (by unfold sunRdV; rw [if_neg (by omega), hh]) w).mono ?_
    rintro e w' ⟨h1, h2⟩
    exact ⟨h2, h1⟩
  | body h W H hh hW hH w1 w2 h1 h2 t u =>
    rw [t]
    obtain ⟨_, ok, _, _⟩ := sunHead_none hh
    have hrd : sunRdV s = hdV ((sunHd s).W : Int) ((sunHd s).H : Int) ((sunHd s).bits : Int) ((sunHd s).typ : Int) ((sunHd s).n : Int) 0 0 := by
      unfold sunRdV
      rw [if_neg (by omega), hh]
    have eW : (sunHd s).W = W := hW
    have eH : (sunHd s).H = H := hH
    clear t u hh
    generalize hg : sunHd s = g at *
    obtain ⟨gW, gH, gd, gt, gn⟩ := g
    simp only at eW eH hrd
    subst eW eH
    have hn : gn ≤ 256 := ok.n
    by_cases hc : 32 + 3 * gn ≤ s.size
    · rw [if_pos hc]
      have hd : SunDepth gd := ok.d
      rcases hd with rfl | rfl | rfl | rfl
      · exact refSunDec1 hsm hc ⟨w1, w2⟩ ⟨h1, h2⟩ hn hrd rfl w
      · exact refSunDec8 hsm hc ⟨w1, w2⟩ ⟨h1, h2⟩ hn hrd rfl w
      · exact refSunDec24 hsm hc ⟨w1, w2⟩ ⟨h1, h2⟩ hn hrd rfl w
      · exact refSunDec32 hsm hc ⟨w1, w2⟩ ⟨h1, h2⟩ hn hrd rfl w
    · rw [if_neg hc]
      refine (refSunDec_cut hn hc hsm hrd w).mono ?_
      rintro e w' ⟨h1, h2⟩
      exact ⟨h2, h1⟩
end Go.Proofs.YtccldalagbfmhaaGreat
namespace Go.Proofs.YtccldalagbfmhaaGreat
open Go.RowKit
set_option linter.unusedVariables false
set_option linter.unusedSimpArgs false

/-- what Read leaves -/
def RdPost (w w' : World) (p g : Nat) (s : ByteArray) (y : Led) (e : Ending) : Prop :=
  ∃ y', LedAt w' g y' ∧ Turn [p, g] w w' ∧
    ((∃ kk aa : Nat, kk ≠ 0 ∧ e = .returned (.tuple #[sunPic0, fltV kk aa]) ∧ (sunDec s).run y = (y', .bad kk aa) ∧ ((y.work 1).2 = true → s.size < 32 ∨ sunHead s ≠ none)) ∨
     (e = .returned (.tuple #[sunPicV (sunHd s), flt0]) ∧ 32 ≤ s.size ∧ sunHead s = none))
set_option maxRecDepth 100000 in
set_option maxHeartbeats 4000000 in
theorem sunReadC {w : World} {p g : Nat} {s : ByteArray} {y : Led} (S0 : SrcAt w p g s 0 s.size 0) (L0 : LedAt w g y) (hsm : s.size ≤ 1099511627776) (ok : y.Ok) (hr : y.reason = 0) :
    Calls Tryz.prog 71 #[.pointer (some ⟨p, 0, none⟩)] w fun e w' => RdPost w w' p g s y e := by
  have I0 := PF.new w 135 (by decide)
  have S1 : SrcAt ((w.alloc (.cells #[.int .i64 0, .int .i64 0, .int .i64 0, .int .i64 0, .int .i64 0] 135)).alloc (.cells #[.int .i64 0, .int .i64 0, .int .i64 0] 31)) p g s 0 s.size 0 := Blk.alloc (Blk.alloc S0 _) _
  have L1 : LedAt ((w.alloc (.cells #[.int .i64 0, .int .i64 0, .int .i64 0, .int .i64 0, .int .i64 0] 135)).alloc (.cells #[.int .i64 0, .int .i64 0, .int .i64 0] 31)) g y := Blk.alloc (Blk.alloc L0 _) _
  have T1 : Turn [p, g] w ((w.alloc (.cells #[.int .i64 0, .int .i64 0, .int .i64 0, .int .i64 0, .int .i64 0] 135)).alloc (.cells #[.int .i64 0, .int .i64 0, .int .i64 0] 31)) := ((Turn.refl _ _).alloc _).alloc _
  have hpf : w.heap.size ≠ w.heap.size + 1 := by omega
  have hfp := hpf.symm
  have hlp := Blk.lt S0
  have hlg := Blk.lt L0
  have n1 : w.heap.size ∉ [p, g] := by simp; omega
  have n2 : w.heap.size + 1 ∉ [p, g] := by simp; omega
  have HB := Lib.hid (sunBeginC hsm S1 L1 ok hr)
  generalize hws : ((w.alloc (.cells #[.int .i64 0, .int .i64 0, .int .i64 0, .int .i64 0, .int .i64 0] 135)).alloc (.cells #[.int .i64 0, .int .i64 0, .int .i64 0] 31)) = ws at I0 T1 HB
  have HWS := Lib.hid hws
  generalize hf : w.heap.size + 1 = f at I0 hpf hfp n2
  have HF := Lib.hid hf
  have hfl : w.heap.size ≤ f := by omega
  have HI := Lib.hid I0
  have HT := Lib.hid T1
  clear I0 S1 L1 T1 hws hf S0 L0 ok hr hsm hlp hlg
  go_enter Tryz.func71, Tryz.ntmps71
  go_upto_region 1 with fail
  rw [HWS.out, HF.out]
  go_upto_region 2 with (go_at_call 59; refine HB.out.mono ?_; rintro e w1 ⟨y1, l1, ok1, b1, t1, hor⟩; have P1 := Blk.turn HI.out.P t1 n1; have F1 := FB.turn HI.out.F t1 n2; have T2 := HT.out.trans t1; simp only [sunPic0, sunPicV, fltV, flt0] at hor; rcases hor with ⟨kk, aa, hk, rfl, hrun, hno⟩ | ⟨rfl, s1, yr1, h32, hh, hw1⟩; all_goals (try (have hkI : ¬ (kk : Int) = 0 := by omega)))
  · have hf1 := Blk.lt F1
    have P3 : Blk ((w1.alloc (.cells #[.int .i64 0, .int .i64 0, .int .i64 0, .int .i64 0, .int .i64 0] 97)).alloc (.cells #[.int .i64 (kk : Int), .int .i64 8, .int .i64 (aa : Int)] 31)) w.heap.size 135 #[.int .i64 0, .int .i64 0, .int .i64 0, .int .i64 0, .int .i64 0] := Blk.alloc (Blk.alloc P1 _) _
    have F3 : FB ((w1.alloc (.cells #[.int .i64 0, .int .i64 0, .int .i64 0, .int .i64 0, .int .i64 0] 97)).alloc (.cells #[.int .i64 (kk : Int), .int .i64 8, .int .i64 (aa : Int)] 31)) f 0 0 0 := Blk.alloc (Blk.alloc F1 _) _
    have G3 : FB ((w1.alloc (.cells #[.int .i64 0, .int .i64 0, .int .i64 0, .int .i64 0, .int .i64 0] 97)).alloc (.cells #[.int .i64 (kk : Int), .int .i64 8, .int .i64 (aa : Int)] 31)) (w1.heap.size + 1) (kk : Int) 8 (aa : Int) := Blk.new_at _ _ _ (sz1 _ _).symm
    have L3 : LedAt ((w1.alloc (.cells #[.int .i64 0, .int .i64 0, .int .i64 0, .int .i64 0, .int .i64 0] 97)).alloc (.cells #[.int .i64 (kk : Int), .int .i64 8, .int .i64 (aa : Int)] 31)) g y1 := Blk.alloc (Blk.alloc l1 _) _
    have T3 := (T2.alloc (.cells #[.int .i64 0, .int .i64 0, .int .i64 0, .int .i64 0, .int .i64 0] 97)).alloc (.cells #[.int .i64 (kk : Int), .int .i64 8, .int .i64 (aa : Int)] 31)
    have k1 : f ≠ w1.heap.size + 1 := by omega
    have k3 : w.heap.size ≠ w1.heap.size + 1 := by have := Blk.lt P1; omega
    go_upto_region 3 with fail
    generalize (w1.alloc (.cells #[.int .i64 0, .int .i64 0, .int .i64 0, .int .i64 0, .int .i64 0] 97)).alloc (.cells #[.int .i64 (kk : Int), .int .i64 8, .int .i64 (aa : Int)] 31) = w3 at P3 F3 G3 L3 T3 ⊢
    generalize w1.heap.size + 1 = q at G3 k1 k3 ⊢
    have k2 := k1.symm
    have k4 := k3.symm
    have hgf : g ≠ f := Blk.ne_ L3 F3 (by decide)
    have hgp : g ≠ w.heap.size := Blk.ne_ L3 P3 (by decide)
    have HD := Lib.hid (And.intro L3 T3)
    obtain ⟨g0, g1, g2, o0, o1, o2, gl⟩ := FB.all G3
    obtain ⟨c0, c1, c2, c3, c4, x0, x1, x2, x3, x4, cl, d0, d1, d2, e0, e1, e2, dl⟩ := pf_all P3 F3
    have HN := Lib.hid (And.intro hk (And.intro hrun hno))
    clear F1 P1 T2 F3 G3 L3 T3 P3 l1 t1 hf1 hk hrun hno HB
    go_region
    go_wp2_with fail
    exact bodyPost_ret (v := .tuple #[sunPic0, fltV kk aa]) (by simp [results, Tryz.results71, go_sem, c0, c1, c2, c3, c4, d0, d1, d2, hpf, hfp, sunPic0, fltV]) rfl ⟨y1, (Blk.st3 (Blk.st5 HD.out.1 hgp) hgf).drew, (Turn.st3 (Turn.st5 HD.out.2 (.inr (Nat.le_refl _))) (.inr hfl)).drew, .inl ⟨kk, aa, HN.out.1, rfl, HN.out.2⟩⟩
  · generalize hgh : sunHd s = h
    have hf1 := Blk.lt F1
    have P3 : Blk ((w1.alloc (.cells #[.int .i64 (h.W : Int), .int .i64 (h.H : Int), .int .i64 (h.bits : Int), .int .i64 (h.typ : Int), .int .i64 (h.n : Int)] 97)).alloc (.cells #[.int .i64 0, .int .i64 0, .int .i64 0] 31)) w.heap.size 135 #[.int .i64 0, .int .i64 0, .int .i64 0, .int .i64 0, .int .i64 0] := Blk.alloc (Blk.alloc P1 _) _
    have F3 : FB ((w1.alloc (.cells #[.int .i64 (h.W : Int), .int .i64 (h.H : Int), .int .i64 (h.bits : Int), .int .i64 (h.typ : Int), .int .i64 (h.n : Int)] 97)).alloc (.cells #[.int .i64 0, .int .i64 0, .int .i64 0] 31)) f 0 0 0 := Blk.alloc (Blk.alloc F1 _) _
    have G3 : FB ((w1.alloc (.cells #[.int .i64 (h.W : Int), .int .i64 (h.H : Int), .int .i64 (h.bits : Int), .int .i64 (h.typ : Int), .int .i64 (h.n : Int)] 97)).alloc (.cells #[.int .i64 0, .int .i64 0, .int .i64 0] 31)) (w1.heap.size + 1) 0 0 0 := Blk.new_at _ _ _ (sz1 _ _).symm
    have X3 : Blk ((w1.alloc (.cells #[.int .i64 (h.W : Int), .int .i64 (h.H : Int), .int .i64 (h.bits : Int), .int .i64 (h.typ : Int), .int .i64 (h.n : Int)] 97)).alloc (.cells #[.int .i64 0, .int .i64 0, .int .i64 0] 31)) w1.heap.size 97 #[.int .i64 (h.W : Int), .int .i64 (h.H : Int), .int .i64 (h.bits : Int), .int .i64 (h.typ : Int), .int .i64 (h.n : Int)] := Blk.alloc (Blk.new _ _ _) _
    have L3 : LedAt ((w1.alloc (.cells #[.int .i64 (h.W : Int), .int .i64 (h.H : Int), .int .i64 (h.bits : Int), .int .i64 (h.typ : Int), .int .i64 (h.n : Int)] 97)).alloc (.cells #[.int .i64 0, .int .i64 0, .int .i64 0] 31)) g y1 := Blk.alloc (Blk.alloc l1 _) _
    have T3 := (T2.alloc (.cells #[.int .i64 (h.W : Int), .int .i64 (h.H : Int), .int .i64 (h.bits : Int), .int .i64 (h.typ : Int), .int .i64 (h.n : Int)] 97)).alloc (.cells #[.int .i64 0, .int .i64 0, .int .i64 0] 31)
    have k1 : f ≠ w1.heap.size + 1 := by omega
    have k3 : w.heap.size ≠ w1.heap.size + 1 := by have := Blk.lt P1; omega
    have k5 : f ≠ w1.heap.size := by omega
    have k7 : w.heap.size ≠ w1.heap.size := by have := Blk.lt P1; omega
    generalize (w1.alloc (.cells #[.int .i64 (h.W : Int), .int .i64 (h.H : Int), .int .i64 (h.bits : Int), .int .i64 (h.typ : Int), .int .i64 (h.n : Int)] 97)).alloc (.cells #[.int .i64 0, .int .i64 0, .int .i64 0] 31) = w3 at P3 F3 G3 L3 T3 X3 ⊢
    generalize w1.heap.size + 1 = q at G3 k1 k3 ⊢
    generalize w1.heap.size = u at X3 k5 k7 ⊢
    have k2 := k1.symm
    have k4 := k3.symm
    have k6 := k5.symm
    have k8 := k7.symm
    have hgf : g ≠ f := Blk.ne_ L3 F3 (by decide)
    have hgp : g ≠ w.heap.size := Blk.ne_ L3 P3 (by decide)
    have HD := Lib.hid (And.intro L3 T3)
    obtain ⟨g0, g1, g2, o0, o1, o2, gl⟩ := FB.all G3
    obtain ⟨c0, c1, c2, c3, c4, x0, x1, x2, x3, x4, cl, d0, d1, d2, e0, e1, e2, dl⟩ := pf_all P3 F3
    have y0 : w3.cell? ⟨u, 0, none⟩ = some (.int .i64 (h.W : Int)) := Blk.cell X3 0
    have y1' : w3.cell? ⟨u, 1, none⟩ = some (.int .i64 (h.H : Int)) := Blk.cell X3 1
    have y2 : w3.cell? ⟨u, 2, none⟩ = some (.int .i64 (h.bits : Int)) := Blk.cell X3 2
    have y3 : w3.cell? ⟨u, 3, none⟩ = some (.int .i64 (h.typ : Int)) := Blk.cell X3 3
    have y4 : w3.cell? ⟨u, 4, none⟩ = some (.int .i64 (h.n : Int)) := Blk.cell X3 4
    have HN := Lib.hid (And.intro h32 hh)
    have HGH := Lib.hid hgh
    clear F1 P1 T2 F3 G3 L3 T3 P3 X3 l1 t1 hf1 hh hgh HB s1
    go_wp2_with fail
    exact bodyPost_ret (v := .tuple #[sunPicV h, flt0]) (by simp [results, Tryz.results71, go_sem, c0, c1, c2, c3, c4, d0, d1, d2, hpf, hfp, sunPicV, flt0]) rfl ⟨y1, by exact Blk.st3 (Blk.st5 HD.out.1 hgp) hgf, by exact Turn.st3 (Turn.st5 HD.out.2 (.inr (Nat.le_refl _))) (.inr hfl), .inr ⟨by rw [HGH.out], HN.out⟩⟩
theorem rd_all {w : World} {p f : Nat} {k a : Int} {v0 v1 v2 v3 v4 : Value} (P : Blk w p 135 #[v0, v1, v2, v3, v4]) (F : FB w f k 8 a) : w.cell? ⟨p, 0, none⟩ = some v0 ∧ w.cell? ⟨p, 1, none⟩ = some v1 ∧ w.cell? ⟨p, 2, none⟩ = some v2 ∧ w.cell? ⟨p, 3, none⟩ = some v3 ∧ w.cell? ⟨p, 4, none⟩ = some v4 ∧ w.frozen? ⟨p, 0, none⟩ = false ∧ w.frozen? ⟨p, 1, none⟩ = false ∧ w.frozen? ⟨p, 2, none⟩ = false ∧ w.frozen? ⟨p, 3, none⟩ = false ∧ w.frozen? ⟨p, 4, none⟩ = false ∧ p < w.heap.size ∧
    w.cell? ⟨f, 0, none⟩ = some (.int .i64 k) ∧ w.cell? ⟨f, 1, none⟩ = some (.int .i64 8) ∧ w.cell? ⟨f, 2, none⟩ = some (.int .i64 a) ∧ w.frozen? ⟨f, 0, none⟩ = false ∧ w.frozen? ⟨f, 1, none⟩ = false ∧ w.frozen? ⟨f, 2, none⟩ = false ∧ f < w.heap.size :=
  ⟨Blk.cell P 0, Blk.cell P 1, Blk.cell P 2, Blk.cell P 3, Blk.cell P 4, Blk.frozen P 0, Blk.frozen P 1, Blk.frozen P 2, Blk.frozen P 3, Blk.frozen P 4, Blk.lt P, Blk.cell F 0, Blk.cell F 1, Blk.cell F 2, Blk.frozen F 0, Blk.frozen F 1, Blk.frozen F 2, Blk.lt F⟩
theorem rd_all' {w : World} {p f : Nat} {v0 v1 v2 v3 v4 : Value} (P : Blk w p 135 #[v0, v1, v2, v3, v4]) (F : FB w f 0 0 0) : w.cell? ⟨p, 0, none⟩ = some v0 ∧ w.cell? ⟨p, 1, none⟩ = some v1 ∧ w.cell? ⟨p, 2, none⟩ = some v2 ∧ w.cell? ⟨p, 3, none⟩ = some v3 ∧ w.cell? ⟨p, 4, none⟩ = some v4 ∧ w.frozen? ⟨p, 0, none⟩ = false ∧ w.frozen? ⟨p, 1, none⟩ = false ∧ w.frozen? ⟨p, 2, none⟩ = false ∧ w.frozen? ⟨p, 3, none⟩ = false ∧ w.frozen? ⟨p, 4, none⟩ = false ∧ p < w.heap.size ∧
    w.cell? ⟨f, 0, none⟩ = some (.int .i64 0) ∧ w.cell? ⟨f, 1, none⟩ = some (.int .i64 0) ∧ w.cell? ⟨f, 2, none⟩ = some (.int .i64 0) ∧ w.frozen? ⟨f, 0, none⟩ = false ∧ w.frozen? ⟨f, 1, none⟩ = false ∧ w.frozen? ⟨f, 2, none⟩ = false ∧ f < w.heap.size :=
  ⟨Blk.cell P 0, Blk.cell P 1, Blk.cell P 2, Blk.cell P 3, Blk.cell P 4, Blk.frozen P 0, Blk.frozen P 1, Blk.frozen P 2, Blk.frozen P 3, Blk.frozen P 4, Blk.lt P, Blk.cell F 0, Blk.cell F 1, Blk.cell F 2, Blk.frozen F 0, Blk.frozen F 1, Blk.frozen F 2, Blk.lt F⟩
theorem XW_work29 : XW.work 1 = (XW1, true) := XW_work
set_option maxRecDepth 100000 in
set_option maxHeartbeats 2000000 in
theorem heads29_bad {s : ByteArray} {k a : Nat} (hsm : s.size ≤ 1099511627776) (hk : (s.size < 32 ∧ k = 1 ∧ a = s.size) ∨ (32 ≤ s.size ∧ k ≠ 0 ∧ sunHead s = some (k, a))) (w : World) :
    Calls Tryz.prog 25 #[.string s] w fun e w' => e = .returned (.bool true) ∧ Below w.heap.size w w' := by
  have hrun : (sunDec s).run XW = (XW1, .bad k a) := by
    rw [sunDec_run_yes XW_work]
    rcases hk with ⟨h1, rfl, rfl⟩ | ⟨h1, _, h2⟩
    · rw [if_pos h1]; rfl
    · rw [if_neg (by omega), h2]; rfl
  have hrd : sunRdV s = hdV 0 0 0 0 0 (k : Int) (a : Int) := by
    unfold sunRdV
    rcases hk with ⟨h1, rfl, rfl⟩ | ⟨h1, _, h2⟩
    · rw [if_pos h1]; rfl
    · rw [if_neg (by omega), h2]
  have hk0 : k ≠ 0 := by
    rcases hk with ⟨_, rfl, _⟩ | ⟨_, h, _⟩
    · decide
    · exact h
  have hno : ¬ (32 ≤ s.size ∧ sunHead s = none) := by
    rcases hk with ⟨h, _⟩ | ⟨_, _, h⟩
    · omega
    · rw [h]; simp
  have HS : Hid (∀ (w : World) (p g : Nat), SrcAt w p g s 0 s.size 0 → LedAt w g XW → Calls Tryz.prog 71 #[.pointer (some ⟨p, 0, none⟩)] w fun e w' => e = .returned (.tuple #[sunPic0, fltV k a]) ∧ Turn [p, g] w w') := Lib.hid (fun w p g h l => (sunReadC h l hsm XW_ok rfl).mono fun e w' ⟨y', _, t, hor⟩ => by
    rcases hor with ⟨kk, aa, _, he, hr, _⟩ | ⟨_, h1⟩
    · rw [hrun] at hr
      injection hr with _ hr
      injection hr with h1 h2
      exact ⟨by rw [he, h1, h2], t⟩
    · exact absurd h1 hno)
  simp only [sunPic0, fltV] at HS
  have HR0 := fun w => refSunReadC hsm w
  rw [hrd] at HR0
  unfold hdV hd7 at HR0
  have HR := Lib.hid HR0
  have hkI : ¬ (k : Int) = 0 := by omega
  clear hk hrun hrd HR0 hk0 hno
  go_enter Tryz.func25, Tryz.ntmps25
  go_wp2_with (first
    | (go_at_call 22; refine (wide15 _).mono ?_; rintro e w1 ⟨rfl, b1⟩)
    | (go_at_call 38; refine (ledNew_at XW_new _).mono ?_; rintro e w2 ⟨g, rfl, hgn, l2, b2⟩)
    | (go_at_call 39; refine (srcNew_any _ _ _).mono ?_; rintro e w3 ⟨p, rfl, hpn, s3, b3⟩; have l3 := Blk.below l2 b3 (Blk.lt l2))
    | (go_at_call 71; refine (HS.out _ _ _ s3 l3).mono ?_; rintro e w4 ⟨rfl, t4⟩)
    | (go_at_call 58; refine (HR.out _).mono ?_; rintro e w5 ⟨rfl, b5⟩; have h5 : Blk w5 w4.heap.size 135 #[.int .i64 0, .int .i64 0, .int .i64 0, .int .i64 0, .int .i64 0] := Blk.below (Blk.alloc (Blk.new _ _ _) _) b5 (by simp; omega); have f5 : FB w5 (w4.heap.size + 1) (k : Int) 8 (a : Int) := FB.below (Blk.new_at _ _ _ (sz1 _ _).symm) b5; obtain ⟨c0, c1, c2, c3, c4, x0, x1, x2, x3, x4, cl, d0, d1, d2, e0, e1, e2, dl⟩ := rd_all h5 f5))
  go_ret
  have B3 := below_next (below_next b1 b2) b3
  have hz1 := b1.size
  have hz2 := b2.size
  have B4 := Turn.belowNext B3 t4 (by simp; omega) B3.size
  have B5 := B4.alloc B4.size (.cells #[.int .i64 0, .int .i64 0, .int .i64 0, .int .i64 0, .int .i64 0] 135)
  have B6 := below_next (B5.alloc B5.size (.cells #[.int .i64 (k : Int), .int .i64 8, .int .i64 (a : Int)] 31)) b5
  exact ⟨rfl, B6.alloc B6.size _⟩
set_option maxRecDepth 100000 in
set_option maxHeartbeats 2000000 in
theorem heads29_ok {s : ByteArray} (hsm : s.size ≤ 1099511627776) (hs : 32 ≤ s.size) (hh : sunHead s = none) (w : World) :
    Calls Tryz.prog 25 #[.string s] w fun e w' => e = .returned (.bool true) ∧ Below w.heap.size w w' := by
  have hrd : sunRdV s = hdV ((sunHd s).W : Int) ((sunHd s).H : Int) ((sunHd s).bits : Int) ((sunHd s).typ : Int) ((sunHd s).n : Int) 0 0 := by
    unfold sunRdV
    rw [if_neg (by omega), hh]
  have HS : Hid (∀ (w : World) (p g : Nat), SrcAt w p g s 0 s.size 0 → LedAt w g XW → Calls Tryz.prog 71 #[.pointer (some ⟨p, 0, none⟩)] w fun e w' => e = .returned (.tuple #[sunPicV (sunHd s), flt0]) ∧ Turn [p, g] w w') := Lib.hid (fun w p g h l => (sunReadC h l hsm XW_ok rfl).mono fun e w' ⟨y', _, t, hor⟩ => by
    rcases hor with ⟨kk, aa, _, he, hr, hno⟩ | ⟨he, h1⟩
    · rcases hno (by rw [XW_work]) with h | h
      · omega
      · exact absurd hh h
    · exact ⟨he, t⟩)
  simp only [sunPicV, flt0] at HS
  have HR0 := fun w => refSunReadC hsm w
  rw [hrd] at HR0
  unfold hdV hd7 at HR0
  have HR := Lib.hid HR0
  generalize sunHd s = h at HS HR
  clear hrd HR0 hs hh
  go_enter Tryz.func25, Tryz.ntmps25
  go_wp2_with (first
    | (go_at_call 22; refine (wide15 _).mono ?_; rintro e w1 ⟨rfl, b1⟩)
    | (go_at_call 38; refine (ledNew_at XW_new _).mono ?_; rintro e w2 ⟨g, rfl, hgn, l2, b2⟩)
    | (go_at_call 39; refine (srcNew_any _ _ _).mono ?_; rintro e w3 ⟨p, rfl, hpn, s3, b3⟩; have l3 := Blk.below l2 b3 (Blk.lt l2))
    | (go_at_call 71; refine (HS.out _ _ _ s3 l3).mono ?_; rintro e w4 ⟨rfl, t4⟩)
    | (go_at_call 58; refine (HR.out _).mono ?_; rintro e w5 ⟨rfl, b5⟩; have h5 : Blk w5 w4.heap.size 135 #[.int .i64 (h.W : Int), .int .i64 (h.H : Int), .int .i64 (h.bits : Int), .int .i64 (h.typ : Int), .int .i64 (h.n : Int)] := Blk.below (Blk.alloc (Blk.new _ _ _) _) b5 (by simp; omega); have f5 : FB w5 (w4.heap.size + 1) 0 0 0 := FB.below (Blk.new_at _ _ _ (sz1 _ _).symm) b5; obtain ⟨c0, c1, c2, c3, c4, x0, x1, x2, x3, x4, cl, d0, d1, d2, e0, e1, e2, dl⟩ := rd_all' h5 f5))
  go_ret
  have B3 := below_next (below_next b1 b2) b3
  have hz1 := b1.size
  have hz2 := b2.size
  have B4 := Turn.belowNext B3 t4 (by simp; omega) B3.size
  have B5 := B4.alloc B4.size (.cells #[.int .i64 (h.W : Int), .int .i64 (h.H : Int), .int .i64 (h.bits : Int), .int .i64 (h.typ : Int), .int .i64 (h.n : Int)] 135)
  have B6 := below_next (B5.alloc B5.size (.cells #[.int .i64 0, .int .i64 0, .int .i64 0] 31)) b5
  exact ⟨rfl, B6.alloc B6.size _⟩
theorem heads29_any {s : ByteArray} (hsm : s.size ≤ 1099511627776) (w : World) :
    Calls Tryz.prog 25 #[.string s] w fun e w' => e = .returned (.bool true) ∧ Below w.heap.size w w' := by
  cases sunTold_is s with
  | short h t u => exact heads29_bad hsm (.inl ⟨h, rfl, rfl⟩) w
  | head h k a hk hh t u => exact heads29_bad hsm (.inr ⟨h, hk, hh⟩) w
  | body h W H hh hW hH w1 w2 h1 h2 t u => exact heads29_ok hsm h hh w
end Go.Proofs.YtccldalagbfmhaaGreat
namespace Go.Proofs.YtccldalagbfmhaaGreat
open Go.RowKit
set_option linter.unusedVariables false
set_option linter.unusedSimpArgs false

/-- a run by the wide budget, of a file whose sides are small -/
theorem sunRunW {s : ByteArray} (hsm : s.size ≤ 1099511627776) (hw : (sunSides s).1 ≤ 60) (hh : (sunSides s).2 ≤ 60) (w : World) :
    Calls Tryz.prog 15 #[.string s, .agg #[.int .i64 16384, .int .i64 16384, .int .i64 262144, .int .i64 1048576], .func (.func 16) #[] #[]] w fun e w' => ∃ g y, LedAt w' g y ∧ y.bytes = ((sunDec s).told.kept : Int) ∧ Below w.heap.size w w' ∧
      ((∃ k a : Nat, k ≠ 0 ∧ (sunDec s).told = .bad k a ∧ e = .returned (.tuple #[.agg #[.int .i64 0, .int .i64 0, .slice none 0 0], .agg #[.int .i64 (k : Int), .int .i64 8, .int .i64 (a : Int)], .pointer (some ⟨g, 0, none⟩)])) ∨
       (∃ (W H : Nat) (l : List UInt8) (d : Nat), (sunDec s).told = .img W H l ∧ e = .returned (.tuple #[.agg #[.int .i64 (W : Int), .int .i64 (H : Int), .slice (some ⟨d, 0, none⟩) l.length l.length], .agg #[.int .i64 0, .int .i64 0, .int .i64 0], .pointer (some ⟨g, 0, none⟩)]) ∧ BytesAt w' (some ⟨d, 0, none⟩) l.length l)) := by
  obtain ⟨hc, hm⟩ := sunDec_enough s hw hh
  obtain ⟨y0, r0, _, rb⟩ := wide_run (sunDec_bal s) hm (by omega)
  refine (run15 (F := 16) (fm := 8) (D := sunDec s) XW_new XW_ok rfl hsm (fun p w => by kernel_rfl) (fun w p g h l => sunDecodeC h l hsm XW_ok rfl) w).mono ?_
  rintro e w' ⟨g, y, l, yok, gn, bl, hor⟩
  rw [r0] at hor
  rcases hor with ⟨k, a, hk, hr, rfl⟩ | ⟨W, H, l', d, hr, rfl, hb⟩
  · injection hr with h1 h2
    exact ⟨g, y, l, by rw [← h1]; exact rb, bl, .inl ⟨k, a, hk, h2, rfl⟩⟩
  · injection hr with h1 h2
    exact ⟨g, y, l, by rw [← h1]; exact rb, bl, .inr ⟨W, H, l', d, h2, rfl, hb⟩⟩
/-- the law's own test of Is -/
theorem sunIs_same (s : ByteArray) : ∃ b : Bool, decide (4 ≤ s.size ∧ s.extract 0 4 = ⟨#[89, 166, 106, 149]⟩) = b ∧ ((s.size < 4 ∧ b = false) ∨ (4 ≤ s.size ∧ ((s.extract 0 4).toList == [89, 166, 106, 149]) = b)) := by
  refine ⟨_, rfl, ?_⟩
  by_cases h : s.size < 4
  · exact .inl ⟨h, decide_eq_false (by omega)⟩
  · refine .inr ⟨by omega, ?_⟩
    have e2 : (⟨#[89, 166, 106, 149]⟩ : ByteArray).toList = [89, 166, 106, 149] := by rw [ByteArray.toList_eq]
    exact ((congrArg (fun L => (s.extract 0 4).toList == L) e2).symm.trans (textEq _ _)).trans (decide_eq_decide.2 ⟨fun e => ⟨by omega, e⟩, fun e => e.2⟩)
set_option maxRecDepth 100000 in
set_option maxHeartbeats 4000000 in
theorem sunDecodes_bad {s : ByteArray} {k a : Nat} (hs : s.size ≤ 1500) (hk : k ≠ 0) (u : sunSides s = (0, 0) ∨ ∃ W H, sunSides s = (W, H) ∧ W ≤ 60 ∧ H ≤ 60) (t : (sunDec s).told = .bad k a) (w : World) :
    Calls Tryz.prog 4 #[.string s] w fun e w' => e = .returned (.bool true) ∧ Below w.heap.size w w' := by
  obtain ⟨W, H, u', hW, hH⟩ : ∃ W H, sunSides s = (W, H) ∧ W ≤ 60 ∧ H ≤ 60 := u.elim (fun e => ⟨0, 0, e, by omega, by omega⟩) id
  have hsI : ¬ (1500 : Int) < (s.size : Int) := by omega
  have hWI : ¬ (60 : Int) < (W : Int) := by omega
  have hHI : ¬ (60 : Int) < (H : Int) := by omega
  have hkI : ¬ (k : Int) = 0 := by omega
  have hsm : s.size ≤ 1099511627776 := by omega
  have HR0 := fun w => refSunSides hsm w
  have HN0 := fun w => sunRunW hsm (by rw [u']; exact hW) (by rw [u']; exact hH) w
  have HD0 := fun w => refSunDecode hsm w
  rw [u'] at HR0
  rw [t] at HN0 HD0
  have HR := Lib.hid HR0
  have HN := Lib.hid HN0
  have HD := Lib.hid HD0
  have HH := Lib.hid (fun w => heads29_any hsm w)
  obtain ⟨b, hb1, hb2⟩ := sunIs_same s
  have HI := Lib.hid (fun w => sunIs hb1 w)
  have HB2 := Lib.hid hb2
  clear HR0 HN0 HD0 u u' hW hH t hs hk hb1 hb2 hsm
  go_enter Tryz.func4, Tryz.ntmps4
  go_wp2_with (first
    | (go_at_call 14; refine (HR.out _).mono ?_; rintro e w1 ⟨rfl, b1⟩)
    | (go_at_call 22; refine (wide15 _).mono ?_; rintro e w2 ⟨rfl, b2⟩)
    | (go_at_call 15; refine (HN.out _).mono ?_; rintro e w3 ⟨g, y, l3, hy, b3, hor⟩; obtain ⟨k', a', _, hr, rfl⟩ : ∃ k' a' : Nat, k' ≠ 0 ∧ DRes.bad k a = .bad k' a' ∧ e = .returned (.tuple #[.agg #[.int .i64 0, .int .i64 0, .slice none 0 0], .agg #[.int .i64 (k' : Int), .int .i64 8, .int .i64 (a' : Int)], .pointer (some ⟨g, 0, none⟩)]) := hor.elim id (fun ⟨_, _, _, _, h, _⟩ => by cases h); obtain ⟨rfl, rfl⟩ := DRes.bad_inj hr))
  have hy0 : y.bytes = 0 := hy
  have B3 := below_next (below_next b1 b2) b3
  have I4 : IB ((w3.alloc (.cells #[.int .i64 0, .int .i64 0, .slice none 0 0] 29)).alloc (.cells #[.int .i64 (k : Int), .int .i64 8, .int .i64 (a : Int)] 31)) w3.heap.size 0 0 none 0 0 := Blk.alloc (Blk.new _ _ _) _
  have F4 : FB ((w3.alloc (.cells #[.int .i64 0, .int .i64 0, .slice none 0 0] 29)).alloc (.cells #[.int .i64 (k : Int), .int .i64 8, .int .i64 (a : Int)] 31)) (w3.heap.size + 1) (k : Int) 8 (a : Int) := Blk.new_at _ _ _ (by simp)
  have L4 : LedAt ((w3.alloc (.cells #[.int .i64 0, .int .i64 0, .slice none 0 0] 29)).alloc (.cells #[.int .i64 (k : Int), .int .i64 8, .int .i64 (a : Int)] 31)) g y := Blk.alloc (Blk.alloc l3 _) _
  have B4 : Below w.heap.size w ((w3.alloc (.cells #[.int .i64 0, .int .i64 0, .slice none 0 0] 29)).alloc (.cells #[.int .i64 (k : Int), .int .i64 8, .int .i64 (a : Int)] 31)) := (B3.alloc B3.size _).alloc (by have := B3.size; simp; omega) _
  generalize (w3.alloc (.cells #[.int .i64 0, .int .i64 0, .slice none 0 0] 29)).alloc (.cells #[.int .i64 (k : Int), .int .i64 8, .int .i64 (a : Int)] 31) = w4 at I4 F4 L4 B4 ⊢
  generalize w3.heap.size + 1 = qf at F4 ⊢
  generalize w3.heap.size = qm at I4 ⊢
  clear b1 b2 b3 B3 l3 hor
  refine (HD.out _).mono ?_
  rintro e w5 ⟨b5, rfl⟩
  have b6 : Below w5.heap.size w5 (w5.alloc (.cells #[.int .i64 0, .int .i64 0, .slice none 0 0, .int .i64 (k : Int), .int .i64 (a : Int)] 42)) := (Below.refl _ _).alloc (Nat.le_refl _) _
  have R6 : RI (w5.alloc (.cells #[.int .i64 0, .int .i64 0, .slice none 0 0, .int .i64 (k : Int), .int .i64 (a : Int)] 42)) w5.heap.size 0 0 (.slice none 0 0) (k : Int) (a : Int) := Blk.new _ _ _
  rcases HB2.out with ⟨h8, rfl⟩ | ⟨h8, hb⟩
  · have h8I : (s.size : Int) < 4 := by omega
    go_wp2_with (first
      | (go_at_call 25; refine (HH.out _).mono ?_; rintro e w7 ⟨rfl, b7⟩; have F7 : FB w7 qf (k : Int) 8 (a : Int) := FB.below (Blk.alloc (FB.below F4 b5) _) b7; have R7 : RI w7 w5.heap.size 0 0 (.slice none 0 0) (k : Int) (a : Int) := Blk.below R6 b7 (Blk.lt R6); have L5 := Blk.below L4 b5 (Blk.lt L4); have L6 := Blk.alloc L5 (.cells #[.int .i64 0, .int .i64 0, .slice none 0 0, .int .i64 (k : Int), .int .i64 (a : Int)] 42); have L7 : LedAt w7 g y := Blk.below L6 b7 (Blk.lt L6); obtain ⟨c0, c1, c2, z0, z1, z2, fl⟩ := FB.all F7; obtain ⟨d0, d1, d2, d3, d4, y0, y1, y2, y3, y4, dl⟩ := RI.all R7)
      | (go_at_call 26; refine (HI.out _).mono ?_; rintro e w8 ⟨rfl, rfl⟩)
      | (go_at_call 20; refine (bytes_at L7 hy0).mono ?_; rintro e w9 ⟨rfl, rfl⟩)
      | (go_at_call 13; refine (awake29_any _).mono ?_; rintro e w10 ⟨rfl, b10⟩))
    go_ret
    exact ⟨rfl, below_next (below_next (below_next (below_next B4 b5) b6) b7) b10⟩
  · have h8I : ¬ (s.size : Int) < 4 := by omega
    have h8J : (4 : Int) ≤ (s.size : Int) := by omega
    go_wp2_with (first
      | (go_at_call 25; refine (HH.out _).mono ?_; rintro e w7 ⟨rfl, b7⟩; have F7 : FB w7 qf (k : Int) 8 (a : Int) := FB.below (Blk.alloc (FB.below F4 b5) _) b7; have R7 : RI w7 w5.heap.size 0 0 (.slice none 0 0) (k : Int) (a : Int) := Blk.below R6 b7 (Blk.lt R6); have L5 := Blk.below L4 b5 (Blk.lt L4); have L6 := Blk.alloc L5 (.cells #[.int .i64 0, .int .i64 0, .slice none 0 0, .int .i64 (k : Int), .int .i64 (a : Int)] 42); have L7 : LedAt w7 g y := Blk.below L6 b7 (Blk.lt L6); obtain ⟨c0, c1, c2, z0, z1, z2, fl⟩ := FB.all F7; obtain ⟨d0, d1, d2, d3, d4, y0, y1, y2, y3, y4, dl⟩ := RI.all R7)
      | (go_at_call 26; refine (HI.out _).mono ?_; rintro e w8 ⟨rfl, rfl⟩)
      | (go_at_call 20; refine (bytes_at L7 hy0).mono ?_; rintro e w9 ⟨rfl, rfl⟩)
      | (go_at_call 13; refine (awake29_any _).mono ?_; rintro e w10 ⟨rfl, b10⟩))
    go_ret
    exact ⟨rfl, below_next (below_next (below_next (below_next B4 b5) b6) b7) b10⟩
theorem sunRunG {s : ByteArray} {ba bb bc bd : Int} (hsm : s.size ≤ 1099511627776) (h1 : ba ≤ 9223372036854775807) (h2 : bb ≤ 9223372036854775807) (h3 : bc ≤ 9223372036854775807) (h4 : bd ≤ 9223372036854775807) (w : World) :
    Calls Tryz.prog 15 #[.string s, .agg #[.int .i64 ba, .int .i64 bb, .int .i64 bc, .int .i64 bd], .func (.func 16) #[] #[]] w fun e w' => ∃ g y, LedAt w' g y ∧ y.Ok ∧ y.B = nought bc ∧ y.S = nought bd ∧ Below w.heap.size w w' ∧ AnyRun 8 (sunDec s) s.size w w' g y e := by
  refine (run15 (F := 16) (fm := 8) (D := sunDec s) rfl (Led.ok_new h1 h2 h3 h4) rfl hsm (fun p w => by kernel_rfl) (fun w p g h l => sunDecodeC h l hsm (Led.ok_new h1 h2 h3 h4) rfl) w).mono ?_
  intro e w' h
  exact anyRun (sunDec_bal s) rfl rfl h
end Go.Proofs.YtccldalagbfmhaaGreat
