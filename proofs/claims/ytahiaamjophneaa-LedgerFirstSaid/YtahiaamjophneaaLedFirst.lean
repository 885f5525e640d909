/- The walk of LedgerFirst. -/
import Derived.Test.YtahiaamjophneaaLedWalk
import Derived.Test.YtahiaamjophneaaLedStep
import Derived.Test.YtahiaamjophneaaOpenLed
namespace Go.Proofs.Ytahiaamjophneaa
open Go.RowKit
set_option linter.unusedVariables false

/-- the refusal as First tells it -/
def fr (x : Led) : Int := if x.reason = 0 then 0 else x.reason
def fa (x : Led) : Int := if x.reason = 0 then 0 else x.asked
def FAt (w : World) (f : Nat) (r a : Int) : Prop := Blk w f 85 #[.int .i64 r, .int .i64 a]
theorem fr_no {x : Led} (h : x.reason = 0) : fr x = 0 := if_pos h
theorem fa_no {x : Led} (h : x.reason = 0) : fa x = 0 := if_pos h
theorem fr_yes {x : Led} (h : x.reason ≠ 0) : fr x = x.reason := if_neg h
theorem fa_yes {x : Led} (h : x.reason ≠ 0) : fa x = x.asked := if_neg h
theorem had_yes {x : Led} (h : x.reason ≠ 0) : decide (x.reason ≠ 0) = true := decide_eq_true h
theorem had_no {x : Led} (h : x.reason = 0) : decide (x.reason ≠ 0) = false := decide_eq_false (by simpa using h)

/-- the call of a kind -/
theorem step1_at {w : World} {g : Nat} {x : Led} (h : LedAt w g x) (ok : x.Ok) (n m : Int) : Calls Try.prog 60 #[.pointer (some ⟨g, 0, none⟩), .int .i64 n, .int .i64 m] w fun e w' => (∃ v, e = .returned (.bool v)) ∧ LedAt w' g (x.step 1 n m) ∧ w.grownBy w' (some g) :=
  (sides_any g x n m w h ok).mono fun _ _ h => ⟨⟨_, h.1⟩, h.2⟩
theorem step2_at {w : World} {g : Nat} {x : Led} (h : LedAt w g x) (ok : x.Ok) (n m : Int) : Calls Try.prog 52 #[.pointer (some ⟨g, 0, none⟩), .int .i64 n] w fun e w' => (∃ v, e = .returned (.bool v)) ∧ LedAt w' g (x.step 2 n m) ∧ w.grownBy w' (some g) :=
  (take_any g x n w h ok).mono fun _ _ h => ⟨⟨_, h.1⟩, h.2⟩
theorem step3_at {w : World} {g : Nat} {x : Led} (h : LedAt w g x) (ok : x.Ok) (n m : Int) : Calls Try.prog 53 #[.pointer (some ⟨g, 0, none⟩), .int .i64 n] w fun e w' => (∃ v, e = .returned (.bool v)) ∧ LedAt w' g (x.step 3 n m) ∧ w.grownBy w' (some g) :=
  (give_any g x n w h ok).mono fun _ _ h => ⟨⟨_, h.1⟩, h.2⟩
theorem step4_at {w : World} {g : Nat} {x : Led} (h : LedAt w g x) (ok : x.Ok) (n m : Int) : Calls Try.prog 61 #[.pointer (some ⟨g, 0, none⟩), .int .i64 n] w fun e w' => (∃ v, e = .returned (.bool v)) ∧ LedAt w' g (x.step 4 n m) ∧ w.grownBy w' (some g) :=
  (work_any g x n w h ok).mono fun _ _ h => ⟨⟨_, h.1⟩, h.2⟩

theorem no_sides {x : Led} (h : x.reason ≠ 0) (n m : Int) : x.sides n m = (x, false) := if_pos h
theorem no_take {x : Led} (h : x.reason ≠ 0) (n : Int) : x.take n = (x, false) := if_pos h
theorem no_work {x : Led} (h : x.reason ≠ 0) (n : Int) : x.work n = (x, false) := if_pos h

set_option maxRecDepth 100000 in
set_option maxHeartbeats 4000000 in
theorem first_walk (w : World) (p0 p1 p2 p3 : Int) (hp : fits p0 ∧ fits p1 ∧ fits p2 ∧ fits p3) (A : Option Addr) (n cap : Nat) (l : List OpL) (hl : SliceOps w A n l) :
    Calls Try.prog 16 #[.agg #[.int .i64 p0, .int .i64 p1, .int .i64 p2, .int .i64 p3], .slice A n cap] w fun e w' => e = .returned (.bool true) ∧ Below w.heap.size w w' := by
  have HL := Lib.hid hl
  have ok0 := Led.ok_new hp.1.2 hp.2.1.2 hp.2.2.1.2 hp.2.2.2.2
  obtain ⟨x0, hx0⟩ : ∃ x, Led.new p0 p1 p2 p3 = x := ⟨_, rfl⟩
  have hr0 : x0.reason = 0 := by rw [← hx0]; rfl
  rw [hx0] at ok0
  have OK0 := Lib.hid ok0
  have HX0 := Lib.hid hx0
  have HR0 := Lib.hid hr0
  clear hl hp ok0 hr0 hx0
  go_enter Try.func16, Try.ntmps16
  go_wp2_with (go_at_call 50; refine (ledNew_at HX0.out _).mono ?_; rintro e w0 ⟨g, rfl, hgB', h0, b0⟩)
  have hgB : w.heap.size ≤ g := by simp at hgB'; omega
  have bb : Below w.heap.size w w0 := (((Below.refl _ w).alloc (Nat.le_refl _) _)).trans (b0.mono (by simp))
  obtain ⟨f, hf⟩ : ∃ f, f = w0.heap.size := ⟨_, rfl⟩
  have hfg : g < f := by rw [hf]; exact Blk.lt h0
  have hfB : w.heap.size ≤ f := by omega
  have F0 : FAt (w0.alloc (.cells #[.int .i64 0, .int .i64 0] 85)) f (fr x0) (fa x0) := by
    rw [fr_no HR0.out, fa_no HR0.out]; exact Blk.new_at _ _ _ hf
  have H0 : LedAt (w0.alloc (.cells #[.int .i64 0, .int .i64 0] 85)) g x0 := Blk.alloc h0 _
  have B0 : Below w.heap.size w (w0.alloc (.cells #[.int .i64 0, .int .i64 0] 85)) := bb.alloc bb.size _
  have hd0 := had_no HR0.out
  rw [← hf]
  clear hf bb b0 h0 hgB'
  have HH0 := Lib.hid H0
  have HF0 := Lib.hid F0
  have HB0 := Lib.hid B0
  clear H0 F0 B0
  go_loopg [7, 8] n (fun k had i wr => ∃ (q : Nat) (x : Led), q + k = n ∧ q ≤ 100 ∧ i = .int .i64 q ∧ had = .bool (decide (x.reason ≠ 0)) ∧ x.Ok ∧ LedAt wr g x ∧ FAt wr f (fr x) (fa x) ∧ Below w.heap.size w wr)
  case atStart => exact ⟨0, x0, by omega, by omega, rfl, by rw [hd0], OK0.out, HH0.out, HF0.out, HB0.out⟩
  case round =>
    obtain ⟨q, x, hq, hq100, rfl, rfl, okx, h0, F, b0⟩ := hrel
    have H := Lib.hid h0
    have OKX := Lib.hid okx
    have B := Lib.hid b0
    have FH := Lib.hid F
    by_cases hlt : q < n ∧ q < 100
    · obtain ⟨hqn, hq1⟩ := hlt
      obtain rfl | ⟨b, off, rfl, hmax, hll, hcell⟩ := HL.out
      · omega
      obtain ⟨hfit, c0, c1, c2⟩ := hcell q hqn
      have hbB : b < w.heap.size := World.block_lt_of_cell? w _ c0
      have x0 := (b0.cell (p := ⟨b, off + q * 3, none⟩) hbB).trans c0
      have x1 := (b0.cell (p := ⟨b, off + q * 3 + 1, none⟩) hbB).trans c1
      have x2 := (b0.cell (p := ⟨b, off + q * 3 + 2, none⟩) hbB).trans c2
      have hltI : (q : Int) < n := by omega
      have hltI' : (q : Int) < 100 := by omega
      clear hcell c0 c1 c2 hll
      obtain ⟨⟨k1, k2⟩, ⟨n1, n2⟩, ⟨m1, m2⟩⟩ := hfit
      generalize (l.getD q noOp).k = kk at k1 k2 x0
      generalize (l.getD q noOp).n = nn at n1 n2 x1
      generalize (l.getD q noOp).m = mm at m1 m2 x2
      obtain ⟨y, hy⟩ : ∃ y, x.step kk nn mm = y := ⟨_, rfl⟩
      have oky : y.Ok := hy ▸ okx.step kk nn mm
      have keep : x.reason ≠ 0 → y.reason = x.reason ∧ y.asked = x.asked := fun h => hy ▸ Led.step_keeps h kk nn mm
      have hgS : g < wr.heap.size := Blk.lt h0
      have hfS : f < wr.heap.size := Blk.lt F
      have hne : (some f : Option Nat) ≠ some g := by intro e; injection e with e; omega
      have OKY := Lib.hid oky
      have HY := Lib.hid hy
      clear h0 okx b0 F oky hy
      have phase : (x.reason ≠ 0 ∧ y.reason = x.reason ∧ y.asked = x.asked) ∨ (x.reason = 0 ∧ y.reason = 0) ∨ (x.reason = 0 ∧ y.reason ≠ 0) := by
        by_cases h : x.reason = 0
        · by_cases h' : y.reason = 0
          · exact .inr (.inl ⟨h, h'⟩)
          · exact .inr (.inr ⟨h, h'⟩)
        · exact .inl ⟨h, keep h⟩
      clear keep
      rcases phase with ⟨hx, hr, ha⟩ | ⟨hx, hy0⟩ | ⟨hx, hy0⟩
      · have FH' := Lib.hid (show Blk wr f 85 #[.int .i64 x.reason, .int .i64 x.asked] by have := FH.out; rw [fr_yes hx, fa_yes hx] at this; exact this)
        have hd := had_yes hx
        have ER := Lib.hid (show (if y.reason = 0 then 0 else y.reason) = x.reason by rw [if_neg (hr ▸ hx), hr])
        have EA := Lib.hid (show (if y.reason = 0 then 0 else y.asked) = x.asked by rw [if_neg (hr ▸ hx), ha])
        have EB := Lib.hid (show decide (y.reason ≠ 0) = true from decide_eq_true (hr ▸ hx))
        have HX := Lib.hid hx
        have HR := Lib.hid hr
        have HA := Lib.hid ha
        clear hx hr ha
        rw [hd]
        have hk : kk = 1 ∨ kk = 2 ∨ kk = 3 ∨ kk = 4 ∨ (kk ≠ 1 ∧ kk ≠ 2 ∧ kk ≠ 3 ∧ kk ≠ 4) := by omega
        rcases hk with rfl | rfl | rfl | rfl | ⟨d1, d2, d3, d4⟩
        rotate_right
        obtain rfl : x = y := (Led.step0 nn mm d1 d2 d3 d4).symm.trans HY.out
        all_goals
          go_wp2_with (first
            | (go_at_call 60; refine (step1_at (Blk.alloc H.out _) OKX.out nn mm).mono ?_; rintro e w1 ⟨⟨v, rfl⟩, h1, b1⟩; rw [HY.out] at h1)
            | (go_at_call 52; refine (step2_at (Blk.alloc H.out _) OKX.out nn mm).mono ?_; rintro e w1 ⟨⟨v, rfl⟩, h1, b1⟩; rw [HY.out] at h1)
            | (go_at_call 53; refine (step3_at (Blk.alloc H.out _) OKX.out nn mm).mono ?_; rintro e w1 ⟨⟨v, rfl⟩, h1, b1⟩; rw [HY.out] at h1)
            | (go_at_call 61; refine (step4_at (Blk.alloc H.out _) OKX.out nn mm).mono ?_; rintro e w1 ⟨⟨v, rfl⟩, h1, b1⟩; rw [HY.out] at h1)
            | (go_at_call 62; refine (first_at h1 ER.out EA.out EB.out).mono ?_; rintro e w2 ⟨rfl, b2⟩; have L2 := Lib.hid (Blk.below h1 b2 (Blk.lt h1)); have f2 : Blk w2 f _ _ := Blk.below (Blk.grown (Blk.alloc FH'.out _) b1 hne) b2 (Blk.lt (Blk.grown (Blk.alloc FH'.out _) b1 hne)); have B2 := Lib.hid (below_next (below_step (B.out.alloc B.out.size _) b1 hgB) b2); have F2 := Lib.hid f2; have c0 : w2.cell? ⟨f, 0, none⟩ = some (.int .i64 x.reason) := f2.cell 0; have c1 : w2.cell? ⟨f, 1, none⟩ = some (.int .i64 x.asked) := f2.cell 1; have z0 := f2.frozen 0; have z1 := f2.frozen 1; have s2 := f2.lt; clear f2 h1 b1 b2)
            | (go_at_call 62; refine (first_at (Blk.alloc H.out _) ER.out EA.out EB.out).mono ?_; rintro e w2 ⟨rfl, b2⟩; have L2 := Lib.hid (Blk.below (Blk.alloc H.out _) b2 (Blk.lt (Blk.alloc H.out _))); have f2 : Blk w2 f _ _ := Blk.below (Blk.alloc FH'.out _) b2 (Blk.lt (Blk.alloc FH'.out _)); have B2 := Lib.hid (below_next (B.out.alloc B.out.size _) b2); have F2 := Lib.hid f2; have c0 : w2.cell? ⟨f, 0, none⟩ = some (.int .i64 x.reason) := f2.cell 0; have c1 : w2.cell? ⟨f, 1, none⟩ = some (.int .i64 x.asked) := f2.cell 1; have z0 := f2.frozen 0; have z1 := f2.frozen 1; have s2 := f2.lt; clear f2 b2)
            | (go_at_call 56; refine (broken_at (Blk.alloc L2.out _) EB.out).mono ?_; rintro e w7 ⟨rfl, rfl⟩))
        all_goals
          have e1 : fr _ = _ := ER.out
          have e2 : fa _ = _ := EA.out
          have hgf : g ≠ f := by omega
          go_roundg (n - (q + 1))
          case measure => omega
          case rel => exact ⟨q + 1, _, by omega, by omega, by go_num, by rw [EB.out], OKY.out, Blk.alloc (Blk.far (Blk.far L2.out hgf _) hgf _) _, Blk.eq_ (Blk.alloc (Blk.set_ (Blk.set_ F2.out 0 _) 1 _) _) (by rw [e1, e2]; rfl), ((B2.out.setCell hfB _).setCell hfB _).alloc ((B2.out.setCell hfB _).setCell hfB _).size _⟩
      · have FH' := Lib.hid (show Blk wr f 85 #[.int .i64 0, .int .i64 0] by have := FH.out; rw [fr_no hx, fa_no hx] at this; exact this)
        have hd := had_no hx
        have ER := Lib.hid (show (if y.reason = 0 then 0 else y.reason) = 0 from if_pos hy0)
        have EA := Lib.hid (show (if y.reason = 0 then 0 else y.asked) = 0 from if_pos hy0)
        have EB := Lib.hid (show decide (y.reason ≠ 0) = false from decide_eq_false (by simpa using hy0))
        have HX := Lib.hid hx
        have HR := Lib.hid hy0
        clear hx hy0
        rw [hd]
        have hk : kk = 1 ∨ kk = 2 ∨ kk = 3 ∨ kk = 4 ∨ (kk ≠ 1 ∧ kk ≠ 2 ∧ kk ≠ 3 ∧ kk ≠ 4) := by omega
        rcases hk with rfl | rfl | rfl | rfl | ⟨d1, d2, d3, d4⟩
        rotate_right
        obtain rfl : x = y := (Led.step0 nn mm d1 d2 d3 d4).symm.trans HY.out
        all_goals
          go_wp2_with (first
            | (go_at_call 60; refine (step1_at (Blk.alloc H.out _) OKX.out nn mm).mono ?_; rintro e w1 ⟨⟨v, rfl⟩, h1, b1⟩; rw [HY.out] at h1)
            | (go_at_call 52; refine (step2_at (Blk.alloc H.out _) OKX.out nn mm).mono ?_; rintro e w1 ⟨⟨v, rfl⟩, h1, b1⟩; rw [HY.out] at h1)
            | (go_at_call 53; refine (step3_at (Blk.alloc H.out _) OKX.out nn mm).mono ?_; rintro e w1 ⟨⟨v, rfl⟩, h1, b1⟩; rw [HY.out] at h1)
            | (go_at_call 61; refine (step4_at (Blk.alloc H.out _) OKX.out nn mm).mono ?_; rintro e w1 ⟨⟨v, rfl⟩, h1, b1⟩; rw [HY.out] at h1)
            | (go_at_call 62; refine (first_at h1 ER.out EA.out EB.out).mono ?_; rintro e w2 ⟨rfl, b2⟩; have L2 := Lib.hid (Blk.below h1 b2 (Blk.lt h1)); have f2 : Blk w2 f _ _ := Blk.below (Blk.grown (Blk.alloc FH'.out _) b1 hne) b2 (Blk.lt (Blk.grown (Blk.alloc FH'.out _) b1 hne)); have B2 := Lib.hid (below_next (below_step (B.out.alloc B.out.size _) b1 hgB) b2); have F2 := Lib.hid f2; have c0 : w2.cell? ⟨f, 0, none⟩ = some (.int .i64 0) := f2.cell 0; have c1 : w2.cell? ⟨f, 1, none⟩ = some (.int .i64 0) := f2.cell 1; have z0 := f2.frozen 0; have z1 := f2.frozen 1; have s2 := f2.lt; clear f2 h1 b1 b2)
            | (go_at_call 62; refine (first_at (Blk.alloc H.out _) ER.out EA.out EB.out).mono ?_; rintro e w2 ⟨rfl, b2⟩; have L2 := Lib.hid (Blk.below (Blk.alloc H.out _) b2 (Blk.lt (Blk.alloc H.out _))); have f2 : Blk w2 f _ _ := Blk.below (Blk.alloc FH'.out _) b2 (Blk.lt (Blk.alloc FH'.out _)); have B2 := Lib.hid (below_next (B.out.alloc B.out.size _) b2); have F2 := Lib.hid f2; have c0 : w2.cell? ⟨f, 0, none⟩ = some (.int .i64 0) := f2.cell 0; have c1 : w2.cell? ⟨f, 1, none⟩ = some (.int .i64 0) := f2.cell 1; have z0 := f2.frozen 0; have z1 := f2.frozen 1; have s2 := f2.lt; clear f2 b2)
            | (go_at_call 56; refine (broken_at (Blk.alloc L2.out _) EB.out).mono ?_; rintro e w7 ⟨rfl, rfl⟩))
        all_goals
          have e1 : fr _ = _ := ER.out
          have e2 : fa _ = _ := EA.out
          have hgf : g ≠ f := by omega
          go_roundg (n - (q + 1))
          case measure => omega
          case rel => exact ⟨q + 1, _, by omega, by omega, by go_num, by rw [EB.out], OKY.out, Blk.alloc (Blk.far (Blk.far L2.out hgf _) hgf _) _, Blk.eq_ (Blk.alloc (Blk.set_ (Blk.set_ F2.out 0 _) 1 _) _) (by rw [e1, e2]; rfl), ((B2.out.setCell hfB _).setCell hfB _).alloc ((B2.out.setCell hfB _).setCell hfB _).size _⟩
      · have FH' := Lib.hid (show Blk wr f 85 #[.int .i64 0, .int .i64 0] by have := FH.out; rw [fr_no hx, fa_no hx] at this; exact this)
        have hd := had_no hx
        have ER := Lib.hid (show (if y.reason = 0 then 0 else y.reason) = y.reason from if_neg hy0)
        have EA := Lib.hid (show (if y.reason = 0 then 0 else y.asked) = y.asked from if_neg hy0)
        have EB := Lib.hid (show decide (y.reason ≠ 0) = true from decide_eq_true hy0)
        have HX := Lib.hid hx
        have HR := Lib.hid hy0
        clear hx hy0
        rw [hd]
        have hk : kk = 1 ∨ kk = 2 ∨ kk = 3 ∨ kk = 4 ∨ (kk ≠ 1 ∧ kk ≠ 2 ∧ kk ≠ 3 ∧ kk ≠ 4) := by omega
        rcases hk with rfl | rfl | rfl | rfl | ⟨d1, d2, d3, d4⟩
        rotate_right
        obtain rfl : x = y := (Led.step0 nn mm d1 d2 d3 d4).symm.trans HY.out
        all_goals
          go_wp2_with (first
            | (go_at_call 60; refine (step1_at (Blk.alloc H.out _) OKX.out nn mm).mono ?_; rintro e w1 ⟨⟨v, rfl⟩, h1, b1⟩; rw [HY.out] at h1)
            | (go_at_call 52; refine (step2_at (Blk.alloc H.out _) OKX.out nn mm).mono ?_; rintro e w1 ⟨⟨v, rfl⟩, h1, b1⟩; rw [HY.out] at h1)
            | (go_at_call 53; refine (step3_at (Blk.alloc H.out _) OKX.out nn mm).mono ?_; rintro e w1 ⟨⟨v, rfl⟩, h1, b1⟩; rw [HY.out] at h1)
            | (go_at_call 61; refine (step4_at (Blk.alloc H.out _) OKX.out nn mm).mono ?_; rintro e w1 ⟨⟨v, rfl⟩, h1, b1⟩; rw [HY.out] at h1)
            | (go_at_call 62; refine (first_at h1 ER.out EA.out EB.out).mono ?_; rintro e w2 ⟨rfl, b2⟩; have L2 := Lib.hid (Blk.below h1 b2 (Blk.lt h1)); have f2 : Blk w2 f _ _ := Blk.below (Blk.grown (Blk.alloc FH'.out _) b1 hne) b2 (Blk.lt (Blk.grown (Blk.alloc FH'.out _) b1 hne)); have B2 := Lib.hid (below_next (below_step (B.out.alloc B.out.size _) b1 hgB) b2); have F2 := Lib.hid f2; have c0 : w2.cell? ⟨f, 0, none⟩ = some (.int .i64 0) := f2.cell 0; have c1 : w2.cell? ⟨f, 1, none⟩ = some (.int .i64 0) := f2.cell 1; have z0 := f2.frozen 0; have z1 := f2.frozen 1; have s2 := f2.lt; clear f2 h1 b1 b2)
            | (go_at_call 62; refine (first_at (Blk.alloc H.out _) ER.out EA.out EB.out).mono ?_; rintro e w2 ⟨rfl, b2⟩; have L2 := Lib.hid (Blk.below (Blk.alloc H.out _) b2 (Blk.lt (Blk.alloc H.out _))); have f2 : Blk w2 f _ _ := Blk.below (Blk.alloc FH'.out _) b2 (Blk.lt (Blk.alloc FH'.out _)); have B2 := Lib.hid (below_next (B.out.alloc B.out.size _) b2); have F2 := Lib.hid f2; have c0 : w2.cell? ⟨f, 0, none⟩ = some (.int .i64 0) := f2.cell 0; have c1 : w2.cell? ⟨f, 1, none⟩ = some (.int .i64 0) := f2.cell 1; have z0 := f2.frozen 0; have z1 := f2.frozen 1; have s2 := f2.lt; clear f2 b2)
            | (go_at_call 56; refine (broken_at (Blk.alloc L2.out _) EB.out).mono ?_; rintro e w7 ⟨rfl, rfl⟩))
        all_goals
          have e1 : fr _ = _ := ER.out
          have e2 : fa _ = _ := EA.out
          have hgf : g ≠ f := by omega
          go_roundg (n - (q + 1))
          case measure => omega
          case rel => exact ⟨q + 1, _, by omega, by omega, by go_num, by rw [EB.out], OKY.out, Blk.alloc (Blk.far (Blk.far L2.out hgf _) hgf _) _, Blk.eq_ (Blk.alloc (Blk.set_ (Blk.set_ F2.out 0 _) 1 _) _) (by rw [e1, e2]; rfl), ((B2.out.setCell hfB _).setCell hfB _).alloc ((B2.out.setCell hfB _).setCell hfB _).size _⟩
    · have hstop : ¬ q < n ∨ ¬ q < 100 := by omega
      by_cases hx : x.reason ≠ 0
      · have hd := had_yes hx
        have E1 := Lib.hid (no_work hx 0)
        have E2 := Lib.hid (no_take hx 0)
        have E3 := Lib.hid (no_sides hx 1 1)
        rw [hd]
        clear hx h0 okx F b0
        by_cases hqn : q < n
        · obtain rfl : q = 100 := by omega
          have hqI : ((100 : Nat) : Int) < (n : Int) := by omega
          go_wp2_with (first
            | (go_at_call 61; refine (work_at H.out OKX.out E1.out).mono ?_; rintro e w1 ⟨rfl, h1, b1⟩)
            | (go_at_call 52; refine (take_at h1 OKX.out E2.out).mono ?_; rintro e w2 ⟨rfl, h2, b2⟩)
            | (go_at_call 60; refine (sides_at h2 OKX.out E3.out).mono ?_; rintro e w3 ⟨rfl, h3, b3⟩)
            | (go_at_call 51; refine (awake_any _).mono ?_; rintro e w4 ⟨rfl, ba⟩))
          go_ret
          exact ⟨rfl, below_next (below_step (below_step (below_step B.out b1 hgB) b2 hgB) b3 hgB) ba⟩
        · have hqJ : ¬ (q : Int) < (n : Int) := by omega
          go_wp2_with (first
            | (go_at_call 61; refine (work_at H.out OKX.out E1.out).mono ?_; rintro e w1 ⟨rfl, h1, b1⟩)
            | (go_at_call 52; refine (take_at h1 OKX.out E2.out).mono ?_; rintro e w2 ⟨rfl, h2, b2⟩)
            | (go_at_call 60; refine (sides_at h2 OKX.out E3.out).mono ?_; rintro e w3 ⟨rfl, h3, b3⟩)
            | (go_at_call 51; refine (awake_any _).mono ?_; rintro e w4 ⟨rfl, ba⟩))
          go_ret
          exact ⟨rfl, below_next (below_step (below_step (below_step B.out b1 hgB) b2 hgB) b3 hgB) ba⟩
      · have hd := had_no (show x.reason = 0 by simpa using hx)
        rw [hd]
        clear hx h0 okx F b0
        by_cases hqn : q < n
        · obtain rfl : q = 100 := by omega
          have hqI : ((100 : Nat) : Int) < (n : Int) := by omega
          go_wp2_with (go_at_call 51; refine (awake_any _).mono ?_; rintro e w4 ⟨rfl, ba⟩)
          go_ret
          exact ⟨rfl, below_next B.out ba⟩
        · have hqJ : ¬ (q : Int) < (n : Int) := by omega
          go_wp2_with (go_at_call 51; refine (awake_any _).mono ?_; rintro e w4 ⟨rfl, ba⟩)
          go_ret
          exact ⟨rfl, below_next B.out ba⟩

theorem ledgerFirst_said (w : World) (p0 p1 p2 p3 : Int) (hp : fits p0 ∧ fits p1 ∧ fits p2 ∧ fits p3) (A : Option Addr) (n cap : Nat) (l : List OpL) (hl : SliceOps w A n l) :
    Calls Try.prog 16 #[.agg #[.int .i64 p0, .int .i64 p1, .int .i64 p2, .int .i64 p3], .slice A n cap] w fun e w' => e = .returned (.bool true) ∧ Below w.heap.size w w' := first_walk w p0 p1 p2 p3 hp A n cap l hl
end Go.Proofs.Ytahiaamjophneaa
