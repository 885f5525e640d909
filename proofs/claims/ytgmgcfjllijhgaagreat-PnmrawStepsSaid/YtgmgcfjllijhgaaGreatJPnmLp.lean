/- The laws' reading in plain words. -/
import Derived.Test.YtgmgcfjllijhgaaGreatJPnmHd
import Derived.Test.YtgmgcfjllijhgaaGreatJRasRef
import Derived.Test.YtgmgcfjllijhgaaGreatJFfM
namespace Go.Proofs.YtgmgcfjllijhgaaGreat
open Go.RowKit
set_option linter.unusedVariables false
set_option linter.unusedSimpArgs false

def x0V (kk fm aa : Nat) (g : Nat) (b : Bool) : Value := .tuple #[.agg #[.int .i64 0, .int .i64 0, .slice none 0 0], .agg #[.int .i64 (kk : Int), .int .i64 (fm : Int), .int .i64 (aa : Int)], .pointer (some ⟨g, 0, none⟩), .bool b]
/-- what the law's reading leaves -/
def LawPost (s : ByteArray) (x0 : Led) (w w' : World) (e : Ending) : Prop :=
  ∃ (g : Nat) (y : Led) (z : Nat), LedAt w' g y ∧ y.Ok ∧ Below w.heap.size w w' ∧
    ((∃ kk fm aa aa' : Nat, (kk = 4 ∧ fm = 3 ∨ kk = 0 ∧ fm = 0) ∧ aa ≤ s.size ∧ e = .returned (x0V kk fm aa g false) ∧ (pnmDec s).run x0 = ((y.give (z : Int)).1, .bad 4 aa')) ∨
     (∃ kk aa : Nat, kk ≠ 0 ∧ e = .returned (x0V kk 3 aa g true) ∧ (pnmDec s).run x0 = ((y.give (z : Int)).1, .bad kk aa)) ∨
     (∃ (W H : Nat) (l : List UInt8) (d : Nat), (pnmDec s).run x0 = (y, .img W H l) ∧ e = .returned (.tuple #[.agg #[.int .i64 (W : Int), .int .i64 (H : Int), .slice (some ⟨d, 0, none⟩) l.length l.length], .agg #[.int .i64 0, .int .i64 0, .int .i64 0], .pointer (some ⟨g, 0, none⟩), .bool true]) ∧ BytesAt w' (some ⟨d, 0, none⟩) l.length l))
/-- a head that is right is refused by the budget alone -/
theorem head_spent {s : ByteArray} {h : HeadR} {x0 y : Led} {kk aa : Nat} (hh : HeadOk s h) (hr0 : x0.reason = 0) (hb0 : x0.bytes = 0) (run : ∀ (z : Nat) k, (headD s z k).run x0 = ((y.give (z : Int)).1, .bad kk aa)) : kk = 4 ∧ aa ≤ s.size := by
  have hb : (headD s 0 fun _ => Dec.fin (.bad 7 0)).bal s.size 0 := headD_all (DP.bal s 0) fun h _ _ _ _ _ _ _ => ⟨rfl, by decide, Nat.zero_le _⟩
  have ht : (headD s 0 fun _ => Dec.fin (.bad 7 0)).told = .bad 7 0 := by rw [headD_told, hh.is, if_neg (by rw [hh.kind]; simp)]; rfl
  rcases Dec.run_cases s.size _ 0 x0 hb hr0 hb0 with ⟨a, h1, h2, _⟩ | ⟨h1, _⟩
  · rw [run] at h2
    injection h2 with h3 h4
    exact ⟨h3, by omega⟩
  · have hb2 : (headD s 0 fun _ => Dec.fin (.bad 8 0)).bal s.size 0 := headD_all (DP.bal s 0) fun h _ _ _ _ _ _ _ => ⟨rfl, by decide, Nat.zero_le _⟩
    have ht2 : (headD s 0 fun _ => Dec.fin (.bad 8 0)).told = .bad 8 0 := by rw [headD_told, hh.is, if_neg (by rw [hh.kind]; simp)]; rfl
    rw [run, ht] at h1
    rcases Dec.run_cases s.size _ 0 x0 hb2 hr0 hb0 with ⟨a, g1, g2, _⟩ | ⟨g1, _⟩
    · rw [run] at g2
      injection g2 with h3 h4
      injection h1 with h5
      omega
    · rw [run, ht2] at g1
      injection h1 with h5
      injection g1 with h6
      omega
theorem give_zero (y : Led) : (y.give 0).1 = y := by
  unfold Led.give
  split
  · rfl
  · simp
theorem headOk_of {s : ByteArray} (hk : (headAt (nats s)).Kind = 0) : HeadOk s (headAt (nats s)) := by
  have h := headD_all (s := s) (z := 0) (P := fun d => d.told = .bad 4 0 → HeadOk s (headAt (nats s))) ⟨fun _ _ _ h e => h e, fun kd pl h1 _ e => absurd (DRes.bad_inj e).1 h1⟩ (k := fun _ => .fin (.bad 4 0)) (fun h h0 hK hW hH hM ha e _ => by rw [e]; exact ⟨e, h0, hK, hW, hH, hM, ha⟩)
  exact h (by rw [headD_told, if_neg (by rw [hk]; simp)]; rfl)
theorem give_reason (y : Led) (z : Int) : (y.give z).1.reason = y.reason := by unfold Led.give; split <;> rfl
def imgRet (W H : Nat) (d n g : Nat) : Value := .tuple #[.agg #[.int .i64 (W : Int), .int .i64 (H : Int), .slice (some ⟨d, 0, none⟩) n n], .agg #[.int .i64 0, .int .i64 0, .int .i64 0], .pointer (some ⟨g, 0, none⟩), .bool true]
/-- told: a fault that is the file's, or the image -/
def LawTold (s : ByteArray) (w' : World) (g : Nat) (e : Ending) : Prop :=
  (∃ kk aa : Nat, kk ≠ 0 ∧ kk ≠ 4 ∧ (pnmDec s).told = .bad kk aa ∧ e = .returned (x0V kk 3 aa g true)) ∨
  (∃ (W H : Nat) (l : List UInt8) (d : Nat), (pnmDec s).told = .img W H l ∧ e = .returned (imgRet W H d l.length g) ∧ BytesAt w' (some ⟨d, 0, none⟩) l.length l)
theorem pnmDec_cost {s : ByteArray} {h : HeadR} (hh : HeadOk s h) : (pnmDec s).cost ≤ s.size + h.W * h.H * 7 + 9 := by
  refine headD_pot (by omega) fun K W H M n e hn => ?_
  obtain rfl : h = ⟨K, W, H, M, n, 0, 0⟩ := hh.is.symm.trans e
  exact bodyD_cost s ⟨K, W, H, M, n, 0, 0⟩ _ hn
theorem pnmDec_may {s : ByteArray} {h : HeadR} (hh : HeadOk s h) (hW : h.W ≤ 100) (hH : h.H ≤ 100) : (pnmDec s).may 40000 100 100 := by
  refine headD_all (DP.may s 0 40000 100 100) fun h' h0 hK hW' hH' hM ha e => ?_
  obtain rfl : h = h' := hh.is.symm.trans e
  have hm : h.W * h.H ≤ 100 * 100 := Nat.mul_le_mul hW hH
  exact ⟨⟨by omega, by omega⟩, ⟨by omega, by omega⟩, by omega, bodyD_all (DP.may s _ 40000 100 100) ha fun _ _ => trivial⟩
theorem lawFull {s : ByteArray} {h : HeadR} {wk : Int} {w w' : World} {e : Ending} (hh : HeadOk s h) (hW : h.W ≤ 100) (hH : h.H ≤ 100) (hc : ((s.size + h.W * h.H * 7 + 9 : Nat) : Int) ≤ wk) (p : LawPost s (Led.new 100 100 40000 wk) w w' e) : ∃ g, Below w.heap.size w w' ∧ LawTold s w' g e := by
  obtain ⟨g, y, z, l, ok, b, hor⟩ := p
  have hk := pnmDec_cost hh
  have hen := Dec.run_enough (pnmDec s) (Led.new 100 100 40000 wk) s.size 0 rfl (pnmDec_bal s) rfl (pnmDec_may hh hW hH) (by
    show (0 : Int) + ((pnmDec s).cost : Int) ≤ nought wk
    unfold nought
    split <;> omega)
  refine ⟨g, b, ?_⟩
  rcases hor with ⟨kk, fm, aa, aa', hkf, haa, he, run⟩ | ⟨kk, aa, hk, he, run⟩ | ⟨W, H, li, d, run, he, hb⟩
  · rw [run] at hen
    exact absurd rfl (told_ne _ 0 (pnmDec_bal s) hen.1.symm).1
  · rw [run] at hen
    exact .inl ⟨kk, aa, hk, (told_ne _ 0 (pnmDec_bal s) hen.1.symm).1, hen.1.symm, he⟩
  · rw [run] at hen
    exact .inr ⟨W, H, li, d, hen.1.symm, he, hb⟩
deriving instance DecidableEq for HeadR
end Go.Proofs.YtgmgcfjllijhgaaGreat
