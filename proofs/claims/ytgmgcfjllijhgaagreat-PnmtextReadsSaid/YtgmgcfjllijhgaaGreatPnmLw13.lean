/- The laws' reading in plain words; awake of chapter 13. -/
import Derived.Test.YtgmgcfjllijhgaaGreatPnmRd13
namespace Go.Proofs.YtgmgcfjllijhgaaGreat
open Go.RowKit
set_option linter.unusedVariables false
set_option linter.unusedSimpArgs false

theorem headOk_of {s : ByteArray} (hk : (headAt (nats s)).Kind = 0) : HeadOk s (headAt (nats s)) := by
  have h := headD_all (s := s) (z := 0) (P := fun d => d.told = .bad 4 0 → HeadOk s (headAt (nats s))) ⟨fun _ _ _ h e => h e, fun kd pl h1 _ e => absurd (DRes.bad_inj e).1 h1⟩ (k := fun _ => .fin (.bad 4 0)) (fun h h0 hK hW hH hM ha e _ => by rw [e]; exact ⟨e, h0, hK, hW, hH, hM, ha⟩)
  exact h (by rw [headD_told, if_neg (by rw [hk]; simp)]; rfl)
theorem give_reason (y : Led) (z : Int) : (y.give z).1.reason = y.reason := by unfold Led.give; split <;> rfl
def imgRet (W H : Nat) (d n g : Nat) : Value := .tuple #[.agg #[.int .i64 (W : Int), .int .i64 (H : Int), .slice (some ⟨d, 0, none⟩) n n], .agg #[.int .i64 0, .int .i64 0, .int .i64 0], .pointer (some ⟨g, 0, none⟩), .bool true]
/-- told: a fault that is the file's, or the image -/
def LawTold (s : ByteArray) (w' : World) (g : Nat) (e : Ending) : Prop :=
  (∃ kk aa : Nat, kk ≠ 0 ∧ kk ≠ 4 ∧ (pnmDec s).told = .bad kk aa ∧ e = .returned (x0V kk 3 aa g true)) ∨
  (∃ (W H : Nat) (l : List UInt8) (d : Nat), (pnmDec s).told = .img W H l ∧ e = .returned (imgRet W H d l.length g) ∧ BytesAt w' (some ⟨d, 0, none⟩) l.length l)
/-- or the work was spent -/
def LawWays (s : ByteArray) (w' : World) (g : Nat) (y : Led) (e : Ending) : Prop :=
  (∃ (kk fm aa : Nat) (b : Bool), e = .returned (x0V kk fm aa g b) ∧ aa ≤ s.size ∧ (kk = 4 ∨ kk = 0 ∧ b = false) ∧ y.reason ≠ 0) ∨ LawTold s w' g e
theorem lawCases {s : ByteArray} {x0 : Led} {w w' : World} {e : Ending} (hr0 : x0.reason = 0) (hb0 : x0.bytes = 0) (h : LawPost s x0 w w' e) : ∃ g y, LedAt w' g y ∧ y.steps ≤ x0.S ∧ Below w.heap.size w w' ∧ LawWays s w' g y e := by
  obtain ⟨g, y, z, l, ok, b, hor⟩ := h
  have hS := (Dec.run_fix (pnmDec s) x0).2
  rcases hor with ⟨kk, fm, aa, aa', hkf, haa, he, run⟩ | ⟨kk, aa, hk, he, run⟩ | ⟨W, H, li, d, run, he, hb⟩
  · rw [run] at hS
    have h2 : y.S = x0.S := (led_fix_give y _).2.symm.trans hS
    refine ⟨g, y, l, by rw [← h2]; exact ok.t1, b, .inl ⟨kk, fm, aa, false, he, haa, ?_, ?_⟩⟩
    · rcases hkf with ⟨h, _⟩ | ⟨h, _⟩
      · exact .inl h
      · exact .inr ⟨h, rfl⟩
    · rcases Dec.run_cases s.size (pnmDec s) 0 x0 (pnmDec_bal s) hr0 hb0 with ⟨a, _, h3, h4, _⟩ | ⟨h3, h4, h5⟩
      · rw [run, give_reason] at h4; exact h4
      · rw [run] at h3
        exact absurd rfl (told_ne _ 0 (pnmDec_bal s) h3.symm).1
  · rw [run] at hS
    have h2 : y.S = x0.S := (led_fix_give y _).2.symm.trans hS
    refine ⟨g, y, l, by rw [← h2]; exact ok.t1, b, ?_⟩
    rcases Dec.run_cases s.size (pnmDec s) 0 x0 (pnmDec_bal s) hr0 hb0 with ⟨a, ha, h3, h4, _⟩ | ⟨h3, h4, h5⟩
    · rw [run] at h3 h4
      obtain ⟨rfl, rfl⟩ := DRes.bad_inj h3
      rw [give_reason] at h4
      exact .inl ⟨4, 3, aa, true, he, ha, .inl rfl, h4⟩
    · rw [run] at h3
      exact .inr (.inl ⟨kk, aa, hk, (told_ne _ 0 (pnmDec_bal s) h3.symm).1, h3.symm, he⟩)
  · rw [run] at hS
    refine ⟨g, y, l, by rw [← hS]; exact ok.t1, b, .inr (.inr ⟨W, H, li, d, ?_, he, hb⟩)⟩
    rcases Dec.run_cases s.size (pnmDec s) 0 x0 (pnmDec_bal s) hr0 hb0 with ⟨a, ha, h3, h4, _⟩ | ⟨h3, h4, h5⟩
    · rw [run] at h3; cases h3
    · rw [run] at h3; exact h3.symm
theorem pnmDec_cost {s : ByteArray} {h : HeadR} (hh : HeadOk s h) : (pnmDec s).cost ≤ s.size + h.W * h.H * 7 + 9 := by
  refine headD_pot (by omega) fun K W H M n e hn => ?_
  obtain rfl : h = ⟨K, W, H, M, n, 0, 0⟩ := hh.is.symm.trans e
  exact bodyD_cost s ⟨K, W, H, M, n, 0, 0⟩ _ hn
theorem pnmDec_may {s : ByteArray} {h : HeadR} (hh : HeadOk s h) (hW : h.W ≤ 100) (hH : h.H ≤ 100) : (pnmDec s).may 40000 100 100 := by
  refine headD_all (DP.may s 0 40000 100 100) fun h' h0 hK hW' hH' hM ha e => ?_
  obtain rfl : h = h' := hh.is.symm.trans e
  have hm : h.W * h.H ≤ 100 * 100 := Nat.mul_le_mul hW hH
  exact ⟨⟨by omega, by omega⟩, ⟨by omega, by omega⟩, by omega, bodyD_all (DP.may s _ 40000 100 100) ha fun _ _ => trivial⟩
theorem lawFull {s : ByteArray} {h : HeadR} {wk : Int} {w w' : World} {e : Ending} (hh : HeadOk s h) (hW : h.W ≤ 100) (hH : h.H ≤ 100) (hc : ((s.size + h.W * h.H * 7 + 9 : Nat) : Int) ≤ wk) (p : LawPost s (Led.new 100 100 40000 wk) w w' e) : ∃ g, Below w.heap.size w w' ∧ LawTold s w' g e := by
  obtain ⟨g, y, z, l, ok, b, hor⟩ := p
  have hk := pnmDec_cost hh
  have hen := Dec.run_enough (pnmDec s) (Led.new 100 100 40000 wk) s.size 0 rfl (pnmDec_bal s) rfl (pnmDec_may hh hW hH) (by
    show (0 : Int) + ((pnmDec s).cost : Int) ≤ nought wk
    unfold nought
    split <;> omega)
  refine ⟨g, b, ?_⟩
  rcases hor with ⟨kk, fm, aa, aa', hkf, haa, he, run⟩ | ⟨kk, aa, hk, he, run⟩ | ⟨W, H, li, d, run, he, hb⟩
  · rw [run] at hen
    exact absurd rfl (told_ne _ 0 (pnmDec_bal s) hen.1.symm).1
  · rw [run] at hen
    exact .inl ⟨kk, aa, hk, (told_ne _ 0 (pnmDec_bal s) hen.1.symm).1, hen.1.symm, he⟩
  · rw [run] at hen
    exact .inr ⟨W, H, li, d, hen.1.symm, he, hb⟩
deriving instance DecidableEq for HeadR
def lit13 : ByteArray := ⟨#[80, 49, 10, 50, 32, 49, 10, 49, 32, 48, 10]⟩
theorem lit13_head : headAt (nats lit13) = ⟨1, 2, 1, 1, 6, 0, 0⟩ := by decide +kernel
theorem lit13_told : (pnmDec lit13).told = .img 2 1 [0, 0, 0, 255, 255, 255, 255, 255] := by kernel_rfl
theorem awRead13 (w : World) : Calls Tryz.prog 11 #[.string ⟨#[80, 49, 10, 50, 32, 49, 10, 49, 32, 48, 10]⟩, .int .i64 1000] w fun e w' => ∃ g d, e = .returned (imgRet 2 1 d 8 g) ∧ BytesAt w' (some ⟨d, 0, none⟩) 8 [0, 0, 0, 255, 255, 255, 255, 255] ∧ Below w.heap.size w w' := by
  have hh : HeadOk lit13 ⟨1, 2, 1, 1, 6, 0, 0⟩ := by
    have h := headOk_of (s := lit13) (by rw [lit13_head])
    rw [lit13_head] at h
    exact h
  refine (readC13 (s := lit13) (h := ⟨1, 2, 1, 1, 6, 0, 0⟩) (x0 := Led.new 100 100 40000 1000) rfl (by constructor <;> decide) rfl rfl (by decide) hh (by decide) (by decide) (by decide) w).mono ?_
  rintro e w' p
  obtain ⟨g, b, hor⟩ := lawFull hh (by decide) (by decide) (by decide) p
  rcases hor with ⟨kk, aa, _, _, ht, _⟩ | ⟨W, H, l, d, ht, he, hb⟩
  · rw [lit13_told] at ht; cases ht
  · rw [lit13_told] at ht
    injection ht with h1 h2 h3
    subst h1 h2 h3
    exact ⟨g, d, he, hb, b⟩
set_option maxRecDepth 100000 in
theorem awake13_any (w : World) : Calls Tryz.prog 8 #[] w fun e w' => e = .returned (.bool true) ∧ Below w.heap.size w w' := by
  have HA := Lib.hid awRead13
  unfold imgRet at HA
  go_enter Tryz.func8, Tryz.ntmps8
  go_wp2_with (go_at_call 11; refine (HA.out _).mono ?_; rintro e w2 ⟨g, d, rfl, hb, b2⟩; have e1 := bytesText ((hb.alloc (.cells #[.int .i64 2, .int .i64 1, .slice (some ⟨d, 0, none⟩) 8 8] 32)).alloc (.cells #[.int .i64 0, .int .i64 0, .int .i64 0] 34)) 8; rw [show strOf [0, 0, 0, 255, 255, 255, 255, 255] = ⟨#[0, 0, 0, 255, 255, 255, 255, 255]⟩ from rfl] at e1)
  go_ret
  have B2 := b2.alloc b2.size (.cells #[.int .i64 2, .int .i64 1, .slice (some ⟨d, 0, none⟩) 8 8] 32)
  exact ⟨rfl, B2.alloc (by have := B2.size; exact this) _⟩
end Go.Proofs.YtgmgcfjllijhgaaGreat
