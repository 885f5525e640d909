/- HasPrefix; Wide. farbfeld: what a run by a wide budget tells; the document's Decode whole; heads; awake. farbfeld: awake; heads. The law FfDecodes. -/
import Derived.Test.YtccldalagbfmhaaGreatRun
import Derived.Test.YtccldalagbfmhaaGreatFfE
import Derived.Test.YtccldalagbfmhaaGreatFfRef3
import Derived.Test.YtccldalagbfmhaaGreatPlain
import Derived.Test.YtccldalagbfmhaaGreatRasImg7
import Derived.Test.YtccldalagbfmhaaGreatPrefix
namespace Go.Proofs.YtccldalagbfmhaaGreat
open Go.RowKit
set_option linter.unusedVariables false
set_option linter.unusedSimpArgs false

theorem wide15 (w : World) : Calls Tryz.prog 22 #[] w fun e w' => e = .returned (.agg #[.int .i64 16384, .int .i64 16384, .int .i64 262144, .int .i64 1048576]) ∧ Below w.heap.size w w' := by
  go_enter Tryz.func22, Tryz.ntmps22
  go_wp2_with fail
  exact bodyPost_ret (v := .agg #[.int .i64 16384, .int .i64 16384, .int .i64 262144, .int .i64 1048576]) (by simp [results, Tryz.results22, go_sem]) rfl ⟨rfl, (Below.refl _ _).alloc (Nat.le_refl _) _⟩
end Go.Proofs.YtccldalagbfmhaaGreat
namespace Go.Proofs.YtccldalagbfmhaaGreat
open Go.RowKit
set_option linter.unusedVariables false
set_option linter.unusedSimpArgs false

/-- the wide budget -/
def XW : Led := ⟨16384, 16384, 262144, 1048576, 0, 0, 0, 0, 0⟩
theorem XW_new : Led.new 16384 16384 262144 1048576 = XW := rfl
theorem XW_ok : XW.Ok := by constructor <;> decide
theorem DRes.bad_inj {k a k' a' : Nat} (h : DRes.bad k a = .bad k' a') : k = k' ∧ a = a' := by injection h; exact ⟨by assumption, by assumption⟩
theorem told_ne {e : Nat} (d : Dec) : ∀ (b : Nat) {k a : Nat}, d.bal e b → d.told = .bad k a → k ≠ 4 ∧ a ≤ e := by
  induction d with
  | fin r =>
    intro b k a hb h
    unfold Dec.told at h
    subst h
    exact hb.2
  | work n fr a k ih => intro b k a hb h; exact ih _ hb.2.2 h
  | sides W H a k ih => intro b k a hb h; exact ih _ hb.2.2 h
  | take n a k ih => intro b k a hb h; exact ih _ hb.2.2 h
  | give n k ih => intro b k a hb h; exact ih _ hb.2 h
  | hold n fr a k ih => intro b k a hb h; exact ih _ hb.2.2 h
theorem told_img {e : Nat} (d : Dec) : ∀ (b : Nat) {W H : Nat} {l : List UInt8}, d.bal e b → d.told = .img W H l → l.length = 4 * (W * H) := by
  induction d with
  | fin r =>
    intro b W H l hb h
    unfold Dec.told at h
    subst h
    exact hb.2
  | work n fr a k ih => intro b W H l hb h; exact ih _ hb.2.2 h
  | sides W H a k ih => intro b W H l hb h; exact ih _ hb.2.2 h
  | take n a k ih => intro b W H l hb h; exact ih _ hb.2.2 h
  | give n k ih => intro b W H l hb h; exact ih _ hb.2 h
  | hold n fr a k ih => intro b W H l hb h; exact ih _ hb.2.2 h
/-- by the wide budget all is told -/
theorem wide_run {d : Dec} {e : Nat} (hb : d.bal e 0) (hm : d.may 262144 16384 16384) (hc : d.cost ≤ 1000000) : ∃ y, d.run XW = (y, d.told) ∧ y.reason = 0 ∧ y.bytes = (d.told.kept : Int) := by
  have h1 := Dec.run_enough d XW e 0 rfl hb rfl hm (by show (0 : Int) + _ ≤ 1048576; omega)
  rcases Dec.run_cases e d 0 XW hb rfl rfl with ⟨a, _, h3, h4, _⟩ | ⟨h3, h4, h5⟩
  · exact absurd h1.2 h4
  · exact ⟨(d.run XW).1, Prod.ext rfl h3, h4, h5⟩
theorem ffPix_told_img {s : ByteArray} {W H z : Nat} {W' H' : Nat} {l : List UInt8} : ∀ n k, (ffPix s W H z n k).told = .img W' H' l → W' = W ∧ H' = H := by
  intro n
  induction n with
  | zero =>
    intro k h
    have h' : DRes.img W H (ffBytes s k) = .img W' H' l := h
    injection h' with a b c
    exact ⟨a.symm, b.symm⟩
  | succ n ih =>
    intro k h
    by_cases hk : 16 + 8 * k + 8 ≤ s.size
    · rw [ffPix_told_yes hk] at h; exact ih _ h
    · rw [ffPix_told_no hk] at h; cases h
theorem ffDec_told (s : ByteArray) : (ffDec s).told = (if s.size < 16 then Dec.fin (.bad 1 s.size) else match ffHead s with | some f => .fin (.bad f.1 f.2) | none => ffBody s (beN s 8 4) (beN s 12 4)).told := rfl
/-- the ways that a file is told -/
inductive FfTold (s : ByteArray) : Prop where
  | short (h : s.size < 16) (t : (ffDec s).told = .bad 1 s.size) (u : ffSides s = (0, 0)) : FfTold s
  | head (h : 16 ≤ s.size) (k a : Nat) (hk : k ≠ 0) (hh : ffHead s = some (k, a)) (t : (ffDec s).told = .bad k a) (u : ffSides s = (0, 0)) : FfTold s
  | body (h : 16 ≤ s.size) (W H : Nat) (hh : ffHead s = none) (hW : beN s 8 4 = W) (hH : beN s 12 4 = H) (w1 : 1 ≤ W) (w2 : W ≤ 16384) (h1 : 1 ≤ H) (h2 : H ≤ 16384) (t : (ffDec s).told = (ffPix s W H (4 * (W * H)) (W * H) 0).told) (u : ffSides s = (W, H)) : FfTold s
theorem ffTold_is (s : ByteArray) : FfTold s := by
  by_cases h : s.size < 16
  · refine .short h ?_ (if_pos h)
    exact (ffDec_told s).trans (by rw [if_pos h]; rfl)
  · cases hh : ffHead s with
    | some f =>
      refine .head (by omega) f.1 f.2 (ffHead_ne hh).1 hh ?_ ?_
      · exact (ffDec_told s).trans (by rw [if_neg h, hh]; rfl)
      · unfold ffSides; rw [if_neg h, hh]
    | none =>
      obtain ⟨a, b, c, d⟩ := ffHead_sides hh
      refine .body (by omega) _ _ hh rfl rfl a b c d ?_ ?_
      · exact (ffDec_told s).trans (by rw [if_neg h, hh]; rfl)
      · unfold ffSides; rw [if_neg h, hh]
def ffLit : ByteArray := ⟨#[102, 97, 114, 98, 102, 101, 108, 100, 0, 0, 0, 1, 0, 0, 0, 1, 255, 255, 128, 128, 0, 0, 255, 255]⟩
theorem ffLit_told : (ffDec ffLit).told = .img 1 1 [255, 128, 0, 255] := by kernel_rfl
theorem ffLit_sides : ffSides ffLit = (1, 1) := by kernel_rfl
end Go.Proofs.YtccldalagbfmhaaGreat
namespace Go.Proofs.YtccldalagbfmhaaGreat
open Go.RowKit
set_option linter.unusedVariables false
set_option linter.unusedSimpArgs false

/-- Sides by the wide budget -/
def XW1 : Led := ⟨16384, 16384, 262144, 1048576, 0, 0, 1, 0, 0⟩
theorem XW_work : XW.work 1 = (XW1, true) := rfl
end Go.Proofs.YtccldalagbfmhaaGreat
namespace Go.Proofs.YtccldalagbfmhaaGreat
open Go.RowKit
set_option linter.unusedVariables false
set_option linter.unusedSimpArgs false

/-- the law's own test of Is -/
theorem ffIs_same (s : ByteArray) : ∃ b : Bool, decide (8 ≤ s.size ∧ s.extract 0 8 = ⟨#[102, 97, 114, 98, 102, 101, 108, 100]⟩) = b ∧ ((s.size < 8 ∧ b = false) ∨ (8 ≤ s.size ∧ ((s.extract 0 8).toList == [102, 97, 114, 98, 102, 101, 108, 100]) = b)) := by
  refine ⟨_, rfl, ?_⟩
  by_cases h : s.size < 8
  · exact .inl ⟨h, decide_eq_false (by omega)⟩
  · refine .inr ⟨by omega, ?_⟩
    have e2 : (⟨#[102, 97, 114, 98, 102, 101, 108, 100]⟩ : ByteArray).toList = [102, 97, 114, 98, 102, 101, 108, 100] := by rw [ByteArray.toList_eq]
    exact ((congrArg (fun L => (s.extract 0 8).toList == L) e2).symm.trans (textEq _ _)).trans (decide_eq_decide.2 ⟨fun e => ⟨by omega, e⟩, fun e => e.2⟩)
end Go.Proofs.YtccldalagbfmhaaGreat
