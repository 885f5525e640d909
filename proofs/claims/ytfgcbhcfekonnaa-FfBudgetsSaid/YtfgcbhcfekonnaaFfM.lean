/- farbfeld: a run by any budget. -/
import Derived.Test.YtfgcbhcfekonnaaFfG
namespace Go.Proofs.Ytfgcbhcfekonnaa
open Go.RowKit
set_option linter.unusedVariables false
set_option linter.unusedSimpArgs false

theorem led_fix_work (x : Led) (n : Int) : (x.work n).1.B = x.B ∧ (x.work n).1.S = x.S := by unfold Led.work; split <;> first | exact ⟨rfl, rfl⟩ | (split <;> exact ⟨rfl, rfl⟩)
theorem led_fix_take (x : Led) (n : Int) : (x.take n).1.B = x.B ∧ (x.take n).1.S = x.S := by unfold Led.take; split <;> first | exact ⟨rfl, rfl⟩ | (split <;> exact ⟨rfl, rfl⟩)
theorem led_fix_give (x : Led) (n : Int) : (x.give n).1.B = x.B ∧ (x.give n).1.S = x.S := by unfold Led.give; split <;> exact ⟨rfl, rfl⟩
theorem led_fix_sides (x : Led) (a b : Int) : (x.sides a b).1.B = x.B ∧ (x.sides a b).1.S = x.S := by
  unfold Led.sides
  split
  · exact ⟨rfl, rfl⟩
  · split
    · exact ⟨rfl, rfl⟩
    · split <;> exact ⟨rfl, rfl⟩
theorem Dec.run_fix (d : Dec) : ∀ x : Led, (d.run x).1.B = x.B ∧ (d.run x).1.S = x.S := by
  induction d with
  | fin r => intro x; exact ⟨rfl, rfl⟩
  | work n fr a k ih =>
    intro x
    have h := led_fix_work x n
    unfold Dec.run
    split
    · have := ih (x.work n).1; exact ⟨this.1.trans h.1, this.2.trans h.2⟩
    · have := led_fix_give (x.work n).1 (fr : Int); exact ⟨this.1.trans h.1, this.2.trans h.2⟩
  | sides W H a k ih =>
    intro x
    have h := led_fix_sides x W H
    unfold Dec.run
    split
    · have := ih (x.sides W H).1; exact ⟨this.1.trans h.1, this.2.trans h.2⟩
    · exact h
  | take n a k ih =>
    intro x
    have h := led_fix_take x n
    unfold Dec.run
    split
    · have := ih (x.take n).1; exact ⟨this.1.trans h.1, this.2.trans h.2⟩
    · exact h
  | give n k ih =>
    intro x
    have h := led_fix_give x n
    unfold Dec.run
    have := ih (x.give n).1
    exact ⟨this.1.trans h.1, this.2.trans h.2⟩
/-- what a run by any budget leaves -/
inductive AnyRun (fm : Int) (d : Dec) (e : Nat) (w w' : World) (g : Nat) (y : Led) (en : Ending) : Prop where
  | spent (a : Nat) (h : a ≤ e) (r : y.reason ≠ 0) (b : y.bytes = 0) (k : en = .returned (.tuple #[.agg #[.int .i64 0, .int .i64 0, .slice none 0 0], .agg #[.int .i64 4, .int .i64 fm, .int .i64 (a : Int)], .pointer (some ⟨g, 0, none⟩)])) : AnyRun fm d e w w' g y en
  | bad (k a : Nat) (h0 : k ≠ 0) (h4 : k ≠ 4) (t : d.told = .bad k a) (u : en = .returned (.tuple #[.agg #[.int .i64 0, .int .i64 0, .slice none 0 0], .agg #[.int .i64 (k : Int), .int .i64 fm, .int .i64 (a : Int)], .pointer (some ⟨g, 0, none⟩)])) : AnyRun fm d e w w' g y en
  | img (W H : Nat) (l : List UInt8) (c : Nat) (t : d.told = .img W H l) (u : en = .returned (.tuple #[.agg #[.int .i64 (W : Int), .int .i64 (H : Int), .slice (some ⟨c, 0, none⟩) l.length l.length], .agg #[.int .i64 0, .int .i64 0, .int .i64 0], .pointer (some ⟨g, 0, none⟩)])) (b : BytesAt w' (some ⟨c, 0, none⟩) l.length l) : AnyRun fm d e w w' g y en
theorem anyRun {fm : Int} {d : Dec} {e : Nat} {x0 : Led} {w w' : World} {en : Ending} (hb : d.bal e 0) (hr : x0.reason = 0) (h0 : x0.bytes = 0) (h : RunPost fm d x0 w w' en) : ∃ g y, LedAt w' g y ∧ y.Ok ∧ y.B = x0.B ∧ y.S = x0.S ∧ Below w.heap.size w w' ∧ AnyRun fm d e w w' g y en := by
  obtain ⟨g, y, l, yok, gn, bl, hor⟩ := h
  have hf := d.run_fix x0
  have hc := Dec.run_cases e d 0 x0 hb hr h0
  rcases hor with ⟨k, a, hk, hrun, rfl⟩ | ⟨W, H, l', c, hrun, rfl, hbt⟩
  · rw [hrun] at hf hc
    refine ⟨g, y, l, yok, hf.1, hf.2, bl, ?_⟩
    rcases hc with ⟨a', h1, h2, h3, h4⟩ | ⟨h2, h3, h4⟩
    · obtain ⟨rfl, rfl⟩ := DRes.bad_inj h2
      exact .spent a h1 h3 h4 rfl
    · exact .bad k a hk (told_ne d 0 hb h2.symm).1 h2.symm rfl
  · rw [hrun] at hf hc
    refine ⟨g, y, l, yok, hf.1, hf.2, bl, ?_⟩
    rcases hc with ⟨a', h1, h2, h3, h4⟩ | ⟨h2, h3, h4⟩
    · cases h2
    · exact .img W H l' c h2.symm rfl hbt
theorem ffRunG {s : ByteArray} {ba bb bc bd : Int} (hsm : s.size ≤ 1099511627776) (h1 : ba ≤ 9223372036854775807) (h2 : bb ≤ 9223372036854775807) (h3 : bc ≤ 9223372036854775807) (h4 : bd ≤ 9223372036854775807) (w : World) :
    Calls Try.prog 23 #[.string s, .agg #[.int .i64 ba, .int .i64 bb, .int .i64 bc, .int .i64 bd], .func (.func 25) #[] #[]] w fun e w' => ∃ g y, LedAt w' g y ∧ y.Ok ∧ y.B = nought bc ∧ y.S = nought bd ∧ Below w.heap.size w w' ∧ AnyRun 6 (ffDec s) s.size w w' g y e := by
  refine (run15 (F := 25) (fm := 6) (D := ffDec s) rfl (Led.ok_new h1 h2 h3 h4) rfl hsm (fun p w => by kernel_rfl) (fun w p g h l => ffDecodeC h l hsm (Led.ok_new h1 h2 h3 h4) rfl) w).mono ?_
  intro e w' h
  exact anyRun (ffDec_bal s) rfl rfl h
end Go.Proofs.Ytfgcbhcfekonnaa
