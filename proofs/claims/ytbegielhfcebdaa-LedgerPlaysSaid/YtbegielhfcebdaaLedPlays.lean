/- The walk of LedgerPlays. -/
import Derived.Test.YtbegielhfcebdaaLedWalk
import Derived.Test.YtbegielhfcebdaaLedStep
import Derived.Test.YtbegielhfcebdaaLedRef
import Derived.Test.YtbegielhfcebdaaOpenLed
import Derived.BigQuiet
import Derived.Deep.RegionHeld3
import Derived.StillTailTactics
namespace Go.Proofs.Ytbegielhfcebdaa
open Go.RowKit
set_option linter.unusedVariables false

def stC (x : Led) : Array Value := #[.int .i64 x.W, .int .i64 x.H, .int .i64 x.B, .int .i64 x.S, .int .i64 x.bytes, .int .i64 x.peak, .int .i64 x.steps, .int .i64 x.reason, .int .i64 x.asked]
def SAt (w : World) (s : Nat) (x : Led) : Prop := Blk w s 28 (stC x)

theorem ref02New_any (a b c d : Int) (w : World) :
    Calls Try.prog 19 #[.int .i64 a, .int .i64 b, .int .i64 c, .int .i64 d] w fun e w' => e = .returned (.agg #[.int .i64 (Led.new a b c d).W, .int .i64 (Led.new a b c d).H, .int .i64 (Led.new a b c d).B, .int .i64 (Led.new a b c d).S, .int .i64 (Led.new a b c d).bytes, .int .i64 (Led.new a b c d).peak, .int .i64 (Led.new a b c d).steps, .int .i64 (Led.new a b c d).reason, .int .i64 (Led.new a b c d).asked]) ∧ Below w.heap.size w w' := by
  go_enter Try.func19, Try.ntmps19
  go_wp2_with (go_at_call 84; refine (nought2_any _ _).mono ?_; rintro e w' ⟨rfl, rfl⟩)
  exact bodyPost_ret (v := .agg #[.int .i64 (Led.new a b c d).W, .int .i64 (Led.new a b c d).H, .int .i64 (Led.new a b c d).B, .int .i64 (Led.new a b c d).S, .int .i64 (Led.new a b c d).bytes, .int .i64 (Led.new a b c d).peak, .int .i64 (Led.new a b c d).steps, .int .i64 (Led.new a b c d).reason, .int .i64 (Led.new a b c d).asked]) (by simp [results, Try.results19, go_sem, Led.new]) rfl ⟨rfl, (Below.refl _ _).alloc (Nat.le_refl _) _⟩

theorem steps_any (g : Nat) (x : Led) (w : World) (h : LedAt w g x) :
    Calls Try.prog 32 #[.pointer (some ⟨g, 0, none⟩)] w fun e w' => e = .returned (.int .i64 x.steps) ∧ w = w' := by
  have hc := h.steps
  clear h
  go_enter Try.func32, Try.ntmps32
  go_wp2_with (first | (go_at_call 89; refine (load64 _ _ _ hc).mono ?_; rintro e w' ⟨rfl, rfl⟩))
  go_ret
  exact ⟨rfl, rfl⟩

theorem budget_any (g : Nat) (x : Led) (w : World) (h : LedAt w g x) :
    Calls Try.prog 20 #[.pointer (some ⟨g, 0, none⟩)] w fun e w' => e = .returned (.agg #[.int .i64 x.W, .int .i64 x.H, .int .i64 x.B, .int .i64 x.S]) ∧ Below w.heap.size w w' := by
  have c0 := h.W
  have c1 := h.H
  have c2 := h.B
  have c3 := h.S
  have hg : g < w.heap.size := Blk.lt h
  clear h
  go_enter Try.func20, Try.ntmps20
  go_wp2_with fail
  exact bodyPost_ret (v := .agg #[.int .i64 x.W, .int .i64 x.H, .int .i64 x.B, .int .i64 x.S]) (by simp [results, Try.results20, go_sem]) rfl ⟨rfl, (Below.refl _ _).alloc (Nat.le_refl _) _⟩

theorem had_no0 {x : Led} (h : x.reason = 0) : decide (x.reason ≠ 0) = false := decide_eq_false (by simpa using h)
/-- the state s is written over by y -/
def put9 (w : World) (s : Nat) (y : Led) : World :=
  ((((((((w.setCell ⟨s, 0, none⟩ (.int .i64 y.W)).setCell ⟨s, 1, none⟩ (.int .i64 y.H)).setCell ⟨s, 2, none⟩ (.int .i64 y.B)).setCell ⟨s, 3, none⟩ (.int .i64 y.S)).setCell ⟨s, 4, none⟩ (.int .i64 y.bytes)).setCell ⟨s, 5, none⟩ (.int .i64 y.peak)).setCell ⟨s, 6, none⟩ (.int .i64 y.steps)).setCell ⟨s, 7, none⟩ (.int .i64 y.reason)).setCell ⟨s, 8, none⟩ (.int .i64 y.asked)
theorem put9_led {w : World} {s g : Nat} {x y : Led} (h : LedAt w g x) (hne : g ≠ s) : LedAt (put9 w s y) g x := by
  unfold LedAt put9
  iterate 9 (refine Blk.far ?_ hne _)
  exact h
theorem put9_state {w : World} {s : Nat} {x y : Led} (h : SAt w s x) : SAt (put9 w s y) s y := by
  unfold SAt put9
  exact Blk.eq_ ((Blk.set_ (Blk.set_ (Blk.set_ (Blk.set_ (Blk.set_ (Blk.set_ (Blk.set_ (Blk.set_ (Blk.set_ h 0 _) 1 _) 2 _) 3 _) 4 _) 5 _) 6 _) 7 _) 8 _)) (by simp [stC])
theorem put9_below {w a : World} {s : Nat} {y : Led} (h : Below a.heap.size a w) (hs : a.heap.size ≤ s) : Below a.heap.size a (put9 w s y) := by
  unfold put9
  iterate 9 (refine Below.setCell ?_ (by exact hs) _)
  exact h
theorem put9_size {w : World} {s : Nat} {y : Led} : (put9 w s y).heap.size = w.heap.size := by simp [put9, World.setCell]
theorem asked_refused {x : Led} {r a : Int} (hr : r ≠ 0) : (x.refused r a).reason = 0 → (x.refused r a).asked = 0 := fun e => absurd e hr
theorem asked_sides {x : Led} (h : x.reason = 0 → x.asked = 0) (n m : Int) : (x.sides n m).1.reason = 0 → (x.sides n m).1.asked = 0 := by
  unfold Led.sides
  split
  · exact h
  · split
    · exact asked_refused (by decide)
    · split
      · exact asked_refused (by decide)
      · exact h
theorem asked_take {x : Led} (h : x.reason = 0 → x.asked = 0) (n : Int) : (x.take n).1.reason = 0 → (x.take n).1.asked = 0 := by
  unfold Led.take
  split
  · exact h
  · split
    · exact asked_refused (by decide)
    · exact h
theorem asked_give {x : Led} (h : x.reason = 0 → x.asked = 0) (n : Int) : (x.give n).1.reason = 0 → (x.give n).1.asked = 0 := by
  unfold Led.give
  split <;> exact h
theorem asked_work {x : Led} (h : x.reason = 0 → x.asked = 0) (n : Int) : (x.work n).1.reason = 0 → (x.work n).1.asked = 0 := by
  unfold Led.work
  split
  · exact h
  · split
    · exact asked_refused (by decide)
    · exact h
theorem Led.step_asked {x : Led} (h : x.reason = 0 → x.asked = 0) (k n m : Int) : (x.step k n m).reason = 0 → (x.step k n m).asked = 0 := by
  unfold Led.step
  split
  · exact asked_sides h _ _
  · split
    · exact asked_take h _
    · split
      · exact asked_give h _
      · split
        · exact asked_work h _
        · exact h

set_option maxRecDepth 100000 in
set_option maxHeartbeats 4000000 in
theorem plays_walk (w : World) (p0 p1 p2 p3 : Int) (hp : fits p0 ∧ fits p1 ∧ fits p2 ∧ fits p3) (A : Option Addr) (n cap : Nat) (l : List OpL) (hl : SliceOps w A n l) :
    Calls Try.prog 3 #[.agg #[.int .i64 p0, .int .i64 p1, .int .i64 p2, .int .i64 p3], .slice A n cap] w fun e w' => e = .returned (.bool true) ∧ Below w.heap.size w w' := by
  have HL := Lib.hid hl
  have ok0 := Led.ok_new hp.1.2 hp.2.1.2 hp.2.2.1.2 hp.2.2.2.2
  have HN := Lib.hid fun w => ref02New_any p0 p1 p2 p3 w
  have hr0 : (Led.new p0 p1 p2 p3).reason = 0 := rfl
  have ha0 : (Led.new p0 p1 p2 p3).asked = 0 := rfl
  obtain ⟨x0, hx0⟩ : ∃ x, Led.new p0 p1 p2 p3 = x := ⟨_, rfl⟩
  rw [hx0] at ok0 hr0 ha0 HN
  have OK0 := Lib.hid ok0
  have HX0 := Lib.hid hx0
  have HR0 := Lib.hid hr0
  have HA0 := Lib.hid ha0
  clear hl hp ok0 hr0 hx0 ha0
  go_enter Try.func3, Try.ntmps3
  go_wp2_with (first
    | (go_at_call 19; refine (HN.out _).mono ?_; rintro e w1 ⟨rfl, b1⟩)
    | (go_at_call 18; refine (ledNew_at HX0.out _).mono ?_; rintro e w0 ⟨g, rfl, hgB', h0, b0⟩; have y0 : w0.cell? ⟨w.heap.size, 0, none⟩ = some (.int .i64 p0) := (b0.cell (p := ⟨w.heap.size, 0, none⟩) (by simp)).trans (cell_new _ _ _ 0 _ rfl); have y1 : w0.cell? ⟨w.heap.size, 1, none⟩ = some (.int .i64 p1) := (b0.cell (p := ⟨w.heap.size, 1, none⟩) (by simp)).trans (cell_new _ _ _ 1 _ rfl); have y2 : w0.cell? ⟨w.heap.size, 2, none⟩ = some (.int .i64 p2) := (b0.cell (p := ⟨w.heap.size, 2, none⟩) (by simp)).trans (cell_new _ _ _ 2 _ rfl); have y3 : w0.cell? ⟨w.heap.size, 3, none⟩ = some (.int .i64 p3) := (b0.cell (p := ⟨w.heap.size, 3, none⟩) (by simp)).trans (cell_new _ _ _ 3 _ rfl)))
  have L1 : LedAt (w1.alloc (.cells #[.int .i64 x0.W, .int .i64 x0.H, .int .i64 x0.B, .int .i64 x0.S, .int .i64 x0.bytes, .int .i64 x0.peak, .int .i64 x0.steps, .int .i64 x0.reason, .int .i64 x0.asked] 28)) g x0 := Blk.alloc (Blk.below h0 b1 (Blk.lt h0)) _
  have S1 : SAt (w1.alloc (.cells #[.int .i64 x0.W, .int .i64 x0.H, .int .i64 x0.B, .int .i64 x0.S, .int .i64 x0.bytes, .int .i64 x0.peak, .int .i64 x0.steps, .int .i64 x0.reason, .int .i64 x0.asked] 28)) w1.heap.size x0 := Blk.new_at _ _ _ rfl
  have bb : Below w.heap.size w w0 := (((Below.refl _ w).alloc (Nat.le_refl _) _)).trans (b0.mono (by simp))
  have bb1 := below_next bb b1
  have B1 : Below w.heap.size w (w1.alloc (.cells #[.int .i64 x0.W, .int .i64 x0.H, .int .i64 x0.B, .int .i64 x0.S, .int .i64 x0.bytes, .int .i64 x0.peak, .int .i64 x0.steps, .int .i64 x0.reason, .int .i64 x0.asked] 28)) := bb1.alloc bb1.size _
  have hgB : w.heap.size ≤ g := by simp at hgB'; omega
  have hsg : g < w1.heap.size := Blk.lt (Blk.below h0 b1 (Blk.lt h0))
  have hsB : w.heap.size ≤ w1.heap.size := bb1.size
  clear bb bb1 h0 b0 b1 y0 y1 y2 y3 hgB'
  generalize w1.alloc (.cells #[.int .i64 x0.W, .int .i64 x0.H, .int .i64 x0.B, .int .i64 x0.S, .int .i64 x0.bytes, .int .i64 x0.peak, .int .i64 x0.steps, .int .i64 x0.reason, .int .i64 x0.asked] 28) = wv at L1 S1 B1 ⊢
  generalize w1.heap.size = s at S1 hsg hsB ⊢
  have d0 : wv.cell? ⟨s, 0, none⟩ = some (.int .i64 x0.W) := S1.cell 0
  have d1 : wv.cell? ⟨s, 1, none⟩ = some (.int .i64 x0.H) := S1.cell 1
  have d2 : wv.cell? ⟨s, 2, none⟩ = some (.int .i64 x0.B) := S1.cell 2
  have d3 : wv.cell? ⟨s, 3, none⟩ = some (.int .i64 x0.S) := S1.cell 3
  go_region_held3 (fun w' => w'.cell? ⟨s, 0, none⟩ = some (.int .i64 x0.W) ∧ w'.cell? ⟨s, 1, none⟩ = some (.int .i64 x0.H) ∧ w'.cell? ⟨s, 2, none⟩ = some (.int .i64 x0.B) ∧ w'.cell? ⟨s, 3, none⟩ = some (.int .i64 x0.S) ∧ LedAt w' g x0 ∧ SAt w' s x0 ∧ Below w.heap.size w w')
    (first | exact ⟨d0, d1, d2, d3, Blk.drew L1, Blk.drew S1, B1.drew⟩ | (go_split_ands; exact ⟨F4.cell 0, F4.cell 1, F4.cell 2, F4.cell 3, L4, F4, B4⟩) | (go_split_ands; refine ⟨?_, ?_, ?_, ?_, ?_, ?_, ?_⟩ <;> first | assumption | (exact Below.drew (by assumption))))
    (first | (go_at_call 20; go_split_ands; have K1 : LedAt _ g x0 := (by assumption); have K2 : SAt _ s x0 := (by assumption); have K3 : Below w.heap.size w _ := (by assumption); refine (budget_any g x0 _ K1).mono ?_; rintro e w4 ⟨rfl, hb4⟩; have F4 : SAt w4 s x0 := Blk.below K2 hb4 (Blk.lt K2); have L4 : LedAt w4 g x0 := Blk.below K1 hb4 (Blk.lt K1); have B4 := below_next K3 hb4))
  go_wp2_with fail
  have HL4 := Lib.hid L4
  have HF4 := Lib.hid F4
  have HB4 := Lib.hid B4
  clear L4 F4 B4 K1 K2 K3 hb4 d0 d1 d2 d3 L1 S1 B1
  go_loopg [7] n (fun k i wr => ∃ (q : Nat) (x : Led), q + k = n ∧ q ≤ 100 ∧ i = .int .i64 q ∧ x.Ok ∧ (x.reason = 0 → x.asked = 0) ∧ LedAt wr g x ∧ SAt wr s x ∧ Below w.heap.size w wr)
  case atStart => exact ⟨0, x0, by omega, by omega, rfl, OK0.out, fun _ => HA0.out, HL4.out, HF4.out, HB4.out⟩
  case round =>
    obtain ⟨q, x, hq, hq100, rfl, okx, ax, h0, F, b0⟩ := hrel
    have H := Lib.hid h0
    have OKX := Lib.hid okx
    have BX := Lib.hid b0
    have FX := Lib.hid F
    have AX := Lib.hid ax
    by_cases hlt : q < n ∧ q < 100
    · obtain ⟨hqn, hq1⟩ := hlt
      obtain rfl | ⟨b, off, rfl, hmax, hll, hcell⟩ := HL.out
      · omega
      obtain ⟨hfit, c0, c1, c2⟩ := hcell q hqn
      have hbB : b < w.heap.size := World.block_lt_of_cell? w _ c0
      have x0 := (b0.cell (p := ⟨b, off + q * 3, none⟩) hbB).trans c0
      have x1 := (b0.cell (p := ⟨b, off + q * 3 + 1, none⟩) hbB).trans c1
      have x2 := (b0.cell (p := ⟨b, off + q * 3 + 2, none⟩) hbB).trans c2
      have hltI : (q : Int) < n := by omega
      have hltI' : (q : Int) < 100 := by omega
      clear hcell c0 c1 c2 hll
      obtain ⟨⟨k1, k2⟩, ⟨n1, n2⟩, ⟨m1, m2⟩⟩ := hfit
      generalize (l.getD q noOp).k = kk at k1 k2 x0
      generalize (l.getD q noOp).n = nn at n1 n2 x1
      generalize (l.getD q noOp).m = mm at m1 m2 x2
      have hgS : g < wr.heap.size := Blk.lt h0
      have hsS : s < wr.heap.size := Blk.lt F
      have hgs : g ≠ s := by omega
      have hns : (some s : Option Nat) ≠ some g := by intro e; injection e with e; omega
      have hno : (some wr.heap.size : Option Nat) ≠ some g := by intro e; injection e with e; omega
      clear h0 okx b0 F ax
      have hk : kk = 1 ∨ kk = 2 ∨ kk = 3 ∨ kk = 4 ∨ (kk ≠ 1 ∧ kk ≠ 2 ∧ kk ≠ 3 ∧ kk ≠ 4) := by omega
      rcases hk with rfl | rfl | rfl | rfl | ⟨d1, d2, d3, d4⟩
      · obtain ⟨y, bb, e⟩ : ∃ y bb, x.sides nn mm = (y, bb) := ⟨_, _, rfl⟩
        have hy : x.step 1 nn mm = y := congrArg Prod.fst e
        have R2 := fun w => r2sides_any x nn mm w OKX.out
        simp only [e] at R2
        replace R2 := Lib.hid R2
        have E := Lib.hid e
        have OKY := Lib.hid (show y.Ok from hy ▸ OKX.out.step _ nn mm)
        have ASK := Lib.hid (show y.reason = 0 → y.asked = 0 from hy ▸ Led.step_asked AX.out _ nn mm)
        clear e hy
        by_cases hz : y.reason = 0
        · have RZ := Lib.hid hz
          have AZ := Lib.hid (ASK.out hz)
          have ER := Lib.hid (show (if y.reason = 0 then 0 else y.reason) = 0 from if_pos hz)
          have EA := Lib.hid (show (if y.reason = 0 then 0 else y.asked) = 0 from if_pos hz)
          have EB := Lib.hid (show decide (y.reason ≠ 0) = false from had_no0 hz)
          clear hz
          go_wp2_with (first
            | (go_at_call 21; refine (sides_at (Blk.alloc H.out _) OKX.out E.out).mono ?_; rintro e w1 ⟨rfl, h1, b1⟩; have O1 : Blk w1 wr.heap.size 32 #[.int .i64 1, .int .i64 nn, .int .i64 mm] := Blk.grown (Blk.new_at _ _ _ rfl) b1 hno; have o1 : w1.cell? ⟨wr.heap.size, 1, none⟩ = some (.int .i64 nn) := O1.cell 1; have o2 : w1.cell? ⟨wr.heap.size, 2, none⟩ = some (.int .i64 mm) := O1.cell 2; have S1 : SAt w1 s x := Blk.grown (Blk.alloc FX.out _) b1 hns; have v0 : w1.cell? ⟨s, 0, none⟩ = some (.int .i64 x.W) := S1.cell 0; have v1 : w1.cell? ⟨s, 1, none⟩ = some (.int .i64 x.H) := S1.cell 1; have v2 : w1.cell? ⟨s, 2, none⟩ = some (.int .i64 x.B) := S1.cell 2; have v3 : w1.cell? ⟨s, 3, none⟩ = some (.int .i64 x.S) := S1.cell 3; have v4 : w1.cell? ⟨s, 4, none⟩ = some (.int .i64 x.bytes) := S1.cell 4; have v5 : w1.cell? ⟨s, 5, none⟩ = some (.int .i64 x.peak) := S1.cell 5; have v6 : w1.cell? ⟨s, 6, none⟩ = some (.int .i64 x.steps) := S1.cell 6; have v7 : w1.cell? ⟨s, 7, none⟩ = some (.int .i64 x.reason) := S1.cell 7; have v8 : w1.cell? ⟨s, 8, none⟩ = some (.int .i64 x.asked) := S1.cell 8; have H1 := Lib.hid h1; have B1 := Lib.hid (below_step (BX.out.alloc BX.out.size _) b1 hgB); have SS1 := Lib.hid S1; clear h1 b1 O1 S1)
            | (go_at_call 22; refine (R2.out _).mono ?_; rintro e w2 ⟨rfl, b2⟩; have S2 : SAt w2 s x := Blk.below SS1.out b2 (Blk.lt SS1.out); have u0 : w2.cell? ⟨s, 0, none⟩ = some (.int .i64 x.W) := S2.cell 0; have u1 : w2.cell? ⟨s, 1, none⟩ = some (.int .i64 x.H) := S2.cell 1; have u2 : w2.cell? ⟨s, 2, none⟩ = some (.int .i64 x.B) := S2.cell 2; have u3 : w2.cell? ⟨s, 3, none⟩ = some (.int .i64 x.S) := S2.cell 3; have u4 : w2.cell? ⟨s, 4, none⟩ = some (.int .i64 x.bytes) := S2.cell 4; have u5 : w2.cell? ⟨s, 5, none⟩ = some (.int .i64 x.peak) := S2.cell 5; have u6 : w2.cell? ⟨s, 6, none⟩ = some (.int .i64 x.steps) := S2.cell 6; have u7 : w2.cell? ⟨s, 7, none⟩ = some (.int .i64 x.reason) := S2.cell 7; have u8 : w2.cell? ⟨s, 8, none⟩ = some (.int .i64 x.asked) := S2.cell 8; have z0 : w2.frozen? ⟨s, 0, none⟩ = false := S2.frozen 0; have z1 : w2.frozen? ⟨s, 1, none⟩ = false := S2.frozen 1; have z2 : w2.frozen? ⟨s, 2, none⟩ = false := S2.frozen 2; have z3 : w2.frozen? ⟨s, 3, none⟩ = false := S2.frozen 3; have z4 : w2.frozen? ⟨s, 4, none⟩ = false := S2.frozen 4; have z5 : w2.frozen? ⟨s, 5, none⟩ = false := S2.frozen 5; have z6 : w2.frozen? ⟨s, 6, none⟩ = false := S2.frozen 6; have z7 : w2.frozen? ⟨s, 7, none⟩ = false := S2.frozen 7; have z8 : w2.frozen? ⟨s, 8, none⟩ = false := S2.frozen 8; have SS2 := Lib.hid S2; have H2 := Lib.hid (Blk.below H1.out b2 (Blk.lt H1.out)); have B2 := Lib.hid (below_next B1.out b2); clear b2 S2 v0 v1 v2 v3 v4 v5 v6 v7 v8)
            | (go_at_call 29; refine (first_at (put9_led (y := y) H2.out hgs) ER.out EA.out EB.out).mono ?_; rintro e w3 ⟨rfl, b3⟩; have L3 := Lib.hid (Blk.below (put9_led (y := y) H2.out hgs) b3 (Blk.lt (put9_led (y := y) H2.out hgs))); have S3 := Lib.hid (show SAt w3 s y from Blk.below (put9_state (y := y) SS2.out) b3 (Blk.lt (put9_state (y := y) SS2.out))); have B3 := Lib.hid (below_next (put9_below (y := y) B2.out hsB) b3); have sz3 : s < w3.heap.size := Blk.lt S3.out; have LA := Lib.hid (Blk.alloc L3.out (.cells #[.int .i64 0, .int .i64 0] 39)); have SA := Lib.hid (Blk.alloc S3.out (.cells #[.int .i64 0, .int .i64 0] 39)); have BA := Lib.hid (B3.out.alloc B3.out.size (.cells #[.int .i64 0, .int .i64 0] 39)); have t2 : w3.cell? ⟨s, 2, none⟩ = some (.int .i64 y.B) := S3.out.cell 2; have t3 : w3.cell? ⟨s, 3, none⟩ = some (.int .i64 y.S) := S3.out.cell 3; have t4 : w3.cell? ⟨s, 4, none⟩ = some (.int .i64 y.bytes) := S3.out.cell 4; have t5 : w3.cell? ⟨s, 5, none⟩ = some (.int .i64 y.peak) := S3.out.cell 5; have t6 : w3.cell? ⟨s, 6, none⟩ = some (.int .i64 y.steps) := S3.out.cell 6; have t7 : w3.cell? ⟨s, 7, none⟩ = some (.int .i64 0) := (by have q : w3.cell? ⟨s, 7, none⟩ = some (.int .i64 y.reason) := S3.out.cell 7; rw [RZ.out] at q; exact q); have t8 : w3.cell? ⟨s, 8, none⟩ = some (.int .i64 0) := (by have q : w3.cell? ⟨s, 8, none⟩ = some (.int .i64 y.asked) := S3.out.cell 8; rw [AZ.out] at q; exact q); clear b3))
          have hpk : decide (y.B < y.peak) = false := decide_eq_false (by have := OKY.out.p1; omega)
          have hst : decide (y.S < y.steps) = false := decide_eq_false (by have := OKY.out.t1; omega)
          go_quiet ((first | (go_at_call 30; exact Calls.quiet_of_same ((bytes_any g y _ (by exact LA.out)).mono fun _ _ ⟨h, k⟩ => ⟨h, k.symm⟩)) | (go_at_call 31; exact Calls.quiet_of_same ((peak_any g y _ (by exact LA.out)).mono fun _ _ ⟨h, k⟩ => ⟨h, k.symm⟩)) | (go_at_call 32; exact Calls.quiet_of_same ((steps_any g y _ (by exact LA.out)).mono fun _ _ ⟨h, k⟩ => ⟨h, k.symm⟩)) | (go_at_call 33; exact Calls.quiet_of_same ((broken_at (by exact LA.out) EB.out).mono fun _ _ ⟨h, k⟩ => ⟨h, k.symm⟩))))
          go_wp2_with fail
          have LB : LedAt ((w3.alloc (.cells #[.int .i64 0, .int .i64 0] 39)).drewN nq) g y := Blk.drewN LA.out nq
          have SB : SAt ((w3.alloc (.cells #[.int .i64 0, .int .i64 0] 39)).drewN nq) s y := Blk.drewN SA.out nq
          have BB : Below w.heap.size w ((w3.alloc (.cells #[.int .i64 0, .int .i64 0] 39)).drewN nq) := below_drewN BA.out nq
          generalize (w3.alloc (.cells #[.int .i64 0, .int .i64 0] 39)).drewN nq = wv at LB SB BB ⊢
          have e2 : wv.cell? ⟨s, 2, none⟩ = some (.int .i64 y.B) := SB.cell 2
          have e3 : wv.cell? ⟨s, 3, none⟩ = some (.int .i64 y.S) := SB.cell 3
          have LBH := Lib.hid LB
          have SBH := Lib.hid SB
          have BBH := Lib.hid BB
          clear LB SB BB
          go_quiet ((first | (go_at_call 30; exact Calls.quiet_of_same ((bytes_any g y _ (by exact LBH.out)).mono fun _ _ ⟨h, k⟩ => ⟨h, k.symm⟩)) | (go_at_call 31; exact Calls.quiet_of_same ((peak_any g y _ (by exact LBH.out)).mono fun _ _ ⟨h, k⟩ => ⟨h, k.symm⟩)) | (go_at_call 32; exact Calls.quiet_of_same ((steps_any g y _ (by exact LBH.out)).mono fun _ _ ⟨h, k⟩ => ⟨h, k.symm⟩)) | (go_at_call 33; exact Calls.quiet_of_same ((broken_at (by exact LBH.out) EB.out).mono fun _ _ ⟨h, k⟩ => ⟨h, k.symm⟩))))
          go_wp2_with fail
          go_roundg (n - (q + 1))
          case measure => omega
          case rel => exact ⟨q + 1, y, by omega, by omega, by go_num, OKY.out, ASK.out, Blk.drewN LBH.out _, Blk.drewN SBH.out _, below_drewN BBH.out _⟩
        · have ER := Lib.hid (show (if y.reason = 0 then 0 else y.reason) = y.reason from if_neg hz)
          have EA := Lib.hid (show (if y.reason = 0 then 0 else y.asked) = y.asked from if_neg hz)
          have EB := Lib.hid (show decide (y.reason ≠ 0) = true from decide_eq_true hz)
          have hz1 : (y.reason == 0) = false := by simpa using hz
          have hz2 : (y.reason != 0) = true := by simpa using hz
          have hz3 : decide (y.reason = 0) = false := decide_eq_false hz
          go_wp2_with (first
            | (go_at_call 21; refine (sides_at (Blk.alloc H.out _) OKX.out E.out).mono ?_; rintro e w1 ⟨rfl, h1, b1⟩; have O1 : Blk w1 wr.heap.size 32 #[.int .i64 1, .int .i64 nn, .int .i64 mm] := Blk.grown (Blk.new_at _ _ _ rfl) b1 hno; have o1 : w1.cell? ⟨wr.heap.size, 1, none⟩ = some (.int .i64 nn) := O1.cell 1; have o2 : w1.cell? ⟨wr.heap.size, 2, none⟩ = some (.int .i64 mm) := O1.cell 2; have S1 : SAt w1 s x := Blk.grown (Blk.alloc FX.out _) b1 hns; have v0 : w1.cell? ⟨s, 0, none⟩ = some (.int .i64 x.W) := S1.cell 0; have v1 : w1.cell? ⟨s, 1, none⟩ = some (.int .i64 x.H) := S1.cell 1; have v2 : w1.cell? ⟨s, 2, none⟩ = some (.int .i64 x.B) := S1.cell 2; have v3 : w1.cell? ⟨s, 3, none⟩ = some (.int .i64 x.S) := S1.cell 3; have v4 : w1.cell? ⟨s, 4, none⟩ = some (.int .i64 x.bytes) := S1.cell 4; have v5 : w1.cell? ⟨s, 5, none⟩ = some (.int .i64 x.peak) := S1.cell 5; have v6 : w1.cell? ⟨s, 6, none⟩ = some (.int .i64 x.steps) := S1.cell 6; have v7 : w1.cell? ⟨s, 7, none⟩ = some (.int .i64 x.reason) := S1.cell 7; have v8 : w1.cell? ⟨s, 8, none⟩ = some (.int .i64 x.asked) := S1.cell 8; have H1 := Lib.hid h1; have B1 := Lib.hid (below_step (BX.out.alloc BX.out.size _) b1 hgB); have SS1 := Lib.hid S1; clear h1 b1 O1 S1)
            | (go_at_call 22; refine (R2.out _).mono ?_; rintro e w2 ⟨rfl, b2⟩; have S2 : SAt w2 s x := Blk.below SS1.out b2 (Blk.lt SS1.out); have u0 : w2.cell? ⟨s, 0, none⟩ = some (.int .i64 x.W) := S2.cell 0; have u1 : w2.cell? ⟨s, 1, none⟩ = some (.int .i64 x.H) := S2.cell 1; have u2 : w2.cell? ⟨s, 2, none⟩ = some (.int .i64 x.B) := S2.cell 2; have u3 : w2.cell? ⟨s, 3, none⟩ = some (.int .i64 x.S) := S2.cell 3; have u4 : w2.cell? ⟨s, 4, none⟩ = some (.int .i64 x.bytes) := S2.cell 4; have u5 : w2.cell? ⟨s, 5, none⟩ = some (.int .i64 x.peak) := S2.cell 5; have u6 : w2.cell? ⟨s, 6, none⟩ = some (.int .i64 x.steps) := S2.cell 6; have u7 : w2.cell? ⟨s, 7, none⟩ = some (.int .i64 x.reason) := S2.cell 7; have u8 : w2.cell? ⟨s, 8, none⟩ = some (.int .i64 x.asked) := S2.cell 8; have z0 : w2.frozen? ⟨s, 0, none⟩ = false := S2.frozen 0; have z1 : w2.frozen? ⟨s, 1, none⟩ = false := S2.frozen 1; have z2 : w2.frozen? ⟨s, 2, none⟩ = false := S2.frozen 2; have z3 : w2.frozen? ⟨s, 3, none⟩ = false := S2.frozen 3; have z4 : w2.frozen? ⟨s, 4, none⟩ = false := S2.frozen 4; have z5 : w2.frozen? ⟨s, 5, none⟩ = false := S2.frozen 5; have z6 : w2.frozen? ⟨s, 6, none⟩ = false := S2.frozen 6; have z7 : w2.frozen? ⟨s, 7, none⟩ = false := S2.frozen 7; have z8 : w2.frozen? ⟨s, 8, none⟩ = false := S2.frozen 8; have SS2 := Lib.hid S2; have H2 := Lib.hid (Blk.below H1.out b2 (Blk.lt H1.out)); have B2 := Lib.hid (below_next B1.out b2); clear b2 S2 v0 v1 v2 v3 v4 v5 v6 v7 v8)
            | (go_at_call 29; refine (first_at (put9_led (y := y) H2.out hgs) ER.out EA.out EB.out).mono ?_; rintro e w3 ⟨rfl, b3⟩; have L3 := Lib.hid (Blk.below (put9_led (y := y) H2.out hgs) b3 (Blk.lt (put9_led (y := y) H2.out hgs))); have S3 := Lib.hid (show SAt w3 s y from Blk.below (put9_state (y := y) SS2.out) b3 (Blk.lt (put9_state (y := y) SS2.out))); have B3 := Lib.hid (below_next (put9_below (y := y) B2.out hsB) b3); have sz3 : s < w3.heap.size := Blk.lt S3.out; have LA := Lib.hid (Blk.alloc L3.out (.cells #[.int .i64 y.reason, .int .i64 y.asked] 39)); have SA := Lib.hid (Blk.alloc S3.out (.cells #[.int .i64 y.reason, .int .i64 y.asked] 39)); have BA := Lib.hid (B3.out.alloc B3.out.size (.cells #[.int .i64 y.reason, .int .i64 y.asked] 39)); have t2 : w3.cell? ⟨s, 2, none⟩ = some (.int .i64 y.B) := S3.out.cell 2; have t3 : w3.cell? ⟨s, 3, none⟩ = some (.int .i64 y.S) := S3.out.cell 3; have t4 : w3.cell? ⟨s, 4, none⟩ = some (.int .i64 y.bytes) := S3.out.cell 4; have t5 : w3.cell? ⟨s, 5, none⟩ = some (.int .i64 y.peak) := S3.out.cell 5; have t6 : w3.cell? ⟨s, 6, none⟩ = some (.int .i64 y.steps) := S3.out.cell 6; have t7 : w3.cell? ⟨s, 7, none⟩ = some (.int .i64 y.reason) := S3.out.cell 7; have t8 : w3.cell? ⟨s, 8, none⟩ = some (.int .i64 y.asked) := S3.out.cell 8; clear b3))
          have hpk : decide (y.B < y.peak) = false := decide_eq_false (by have := OKY.out.p1; omega)
          have hst : decide (y.S < y.steps) = false := decide_eq_false (by have := OKY.out.t1; omega)
          go_quiet ((first | (go_at_call 30; exact Calls.quiet_of_same ((bytes_any g y _ (by exact LA.out)).mono fun _ _ ⟨h, k⟩ => ⟨h, k.symm⟩)) | (go_at_call 31; exact Calls.quiet_of_same ((peak_any g y _ (by exact LA.out)).mono fun _ _ ⟨h, k⟩ => ⟨h, k.symm⟩)) | (go_at_call 32; exact Calls.quiet_of_same ((steps_any g y _ (by exact LA.out)).mono fun _ _ ⟨h, k⟩ => ⟨h, k.symm⟩)) | (go_at_call 33; exact Calls.quiet_of_same ((broken_at (by exact LA.out) EB.out).mono fun _ _ ⟨h, k⟩ => ⟨h, k.symm⟩))))
          go_wp2_with fail
          have LB : LedAt ((w3.alloc (.cells #[.int .i64 y.reason, .int .i64 y.asked] 39)).drewN nq) g y := Blk.drewN LA.out nq
          have SB : SAt ((w3.alloc (.cells #[.int .i64 y.reason, .int .i64 y.asked] 39)).drewN nq) s y := Blk.drewN SA.out nq
          have BB : Below w.heap.size w ((w3.alloc (.cells #[.int .i64 y.reason, .int .i64 y.asked] 39)).drewN nq) := below_drewN BA.out nq
          generalize (w3.alloc (.cells #[.int .i64 y.reason, .int .i64 y.asked] 39)).drewN nq = wv at LB SB BB ⊢
          have e2 : wv.cell? ⟨s, 2, none⟩ = some (.int .i64 y.B) := SB.cell 2
          have e3 : wv.cell? ⟨s, 3, none⟩ = some (.int .i64 y.S) := SB.cell 3
          have LBH := Lib.hid LB
          have SBH := Lib.hid SB
          have BBH := Lib.hid BB
          clear LB SB BB
          go_quiet ((first | (go_at_call 30; exact Calls.quiet_of_same ((bytes_any g y _ (by exact LBH.out)).mono fun _ _ ⟨h, k⟩ => ⟨h, k.symm⟩)) | (go_at_call 31; exact Calls.quiet_of_same ((peak_any g y _ (by exact LBH.out)).mono fun _ _ ⟨h, k⟩ => ⟨h, k.symm⟩)) | (go_at_call 32; exact Calls.quiet_of_same ((steps_any g y _ (by exact LBH.out)).mono fun _ _ ⟨h, k⟩ => ⟨h, k.symm⟩)) | (go_at_call 33; exact Calls.quiet_of_same ((broken_at (by exact LBH.out) EB.out).mono fun _ _ ⟨h, k⟩ => ⟨h, k.symm⟩))))
          go_wp2_with fail
          go_roundg (n - (q + 1))
          case measure => omega
          case rel => exact ⟨q + 1, y, by omega, by omega, by go_num, OKY.out, ASK.out, Blk.drewN LBH.out _, Blk.drewN SBH.out _, below_drewN BBH.out _⟩
      · obtain ⟨y, bb, e⟩ : ∃ y bb, x.take nn = (y, bb) := ⟨_, _, rfl⟩
        have hy : x.step 2 nn mm = y := congrArg Prod.fst e
        have R2 := fun w => r2take_any x nn w OKX.out
        simp only [e] at R2
        replace R2 := Lib.hid R2
        have E := Lib.hid e
        have OKY := Lib.hid (show y.Ok from hy ▸ OKX.out.step _ nn mm)
        have ASK := Lib.hid (show y.reason = 0 → y.asked = 0 from hy ▸ Led.step_asked AX.out _ nn mm)
        clear e hy
        by_cases hz : y.reason = 0
        · have RZ := Lib.hid hz
          have AZ := Lib.hid (ASK.out hz)
          have ER := Lib.hid (show (if y.reason = 0 then 0 else y.reason) = 0 from if_pos hz)
          have EA := Lib.hid (show (if y.reason = 0 then 0 else y.asked) = 0 from if_pos hz)
          have EB := Lib.hid (show decide (y.reason ≠ 0) = false from had_no0 hz)
          clear hz
          go_wp2_with (first
            | (go_at_call 23; refine (take_at (Blk.alloc H.out _) OKX.out E.out).mono ?_; rintro e w1 ⟨rfl, h1, b1⟩; have O1 : Blk w1 wr.heap.size 32 #[.int .i64 2, .int .i64 nn, .int .i64 mm] := Blk.grown (Blk.new_at _ _ _ rfl) b1 hno; have o1 : w1.cell? ⟨wr.heap.size, 1, none⟩ = some (.int .i64 nn) := O1.cell 1; have o2 : w1.cell? ⟨wr.heap.size, 2, none⟩ = some (.int .i64 mm) := O1.cell 2; have S1 : SAt w1 s x := Blk.grown (Blk.alloc FX.out _) b1 hns; have v0 : w1.cell? ⟨s, 0, none⟩ = some (.int .i64 x.W) := S1.cell 0; have v1 : w1.cell? ⟨s, 1, none⟩ = some (.int .i64 x.H) := S1.cell 1; have v2 : w1.cell? ⟨s, 2, none⟩ = some (.int .i64 x.B) := S1.cell 2; have v3 : w1.cell? ⟨s, 3, none⟩ = some (.int .i64 x.S) := S1.cell 3; have v4 : w1.cell? ⟨s, 4, none⟩ = some (.int .i64 x.bytes) := S1.cell 4; have v5 : w1.cell? ⟨s, 5, none⟩ = some (.int .i64 x.peak) := S1.cell 5; have v6 : w1.cell? ⟨s, 6, none⟩ = some (.int .i64 x.steps) := S1.cell 6; have v7 : w1.cell? ⟨s, 7, none⟩ = some (.int .i64 x.reason) := S1.cell 7; have v8 : w1.cell? ⟨s, 8, none⟩ = some (.int .i64 x.asked) := S1.cell 8; have H1 := Lib.hid h1; have B1 := Lib.hid (below_step (BX.out.alloc BX.out.size _) b1 hgB); have SS1 := Lib.hid S1; clear h1 b1 O1 S1)
            | (go_at_call 24; refine (R2.out _).mono ?_; rintro e w2 ⟨rfl, b2⟩; have S2 : SAt w2 s x := Blk.below SS1.out b2 (Blk.lt SS1.out); have u0 : w2.cell? ⟨s, 0, none⟩ = some (.int .i64 x.W) := S2.cell 0; have u1 : w2.cell? ⟨s, 1, none⟩ = some (.int .i64 x.H) := S2.cell 1; have u2 : w2.cell? ⟨s, 2, none⟩ = some (.int .i64 x.B) := S2.cell 2; have u3 : w2.cell? ⟨s, 3, none⟩ = some (.int .i64 x.S) := S2.cell 3; have u4 : w2.cell? ⟨s, 4, none⟩ = some (.int .i64 x.bytes) := S2.cell 4; have u5 : w2.cell? ⟨s, 5, none⟩ = some (.int .i64 x.peak) := S2.cell 5; have u6 : w2.cell? ⟨s, 6, none⟩ = some (.int .i64 x.steps) := S2.cell 6; have u7 : w2.cell? ⟨s, 7, none⟩ = some (.int .i64 x.reason) := S2.cell 7; have u8 : w2.cell? ⟨s, 8, none⟩ = some (.int .i64 x.asked) := S2.cell 8; have z0 : w2.frozen? ⟨s, 0, none⟩ = false := S2.frozen 0; have z1 : w2.frozen? ⟨s, 1, none⟩ = false := S2.frozen 1; have z2 : w2.frozen? ⟨s, 2, none⟩ = false := S2.frozen 2; have z3 : w2.frozen? ⟨s, 3, none⟩ = false := S2.frozen 3; have z4 : w2.frozen? ⟨s, 4, none⟩ = false := S2.frozen 4; have z5 : w2.frozen? ⟨s, 5, none⟩ = false := S2.frozen 5; have z6 : w2.frozen? ⟨s, 6, none⟩ = false := S2.frozen 6; have z7 : w2.frozen? ⟨s, 7, none⟩ = false := S2.frozen 7; have z8 : w2.frozen? ⟨s, 8, none⟩ = false := S2.frozen 8; have SS2 := Lib.hid S2; have H2 := Lib.hid (Blk.below H1.out b2 (Blk.lt H1.out)); have B2 := Lib.hid (below_next B1.out b2); clear b2 S2 v0 v1 v2 v3 v4 v5 v6 v7 v8)
            | (go_at_call 29; refine (first_at (put9_led (y := y) H2.out hgs) ER.out EA.out EB.out).mono ?_; rintro e w3 ⟨rfl, b3⟩; have L3 := Lib.hid (Blk.below (put9_led (y := y) H2.out hgs) b3 (Blk.lt (put9_led (y := y) H2.out hgs))); have S3 := Lib.hid (show SAt w3 s y from Blk.below (put9_state (y := y) SS2.out) b3 (Blk.lt (put9_state (y := y) SS2.out))); have B3 := Lib.hid (below_next (put9_below (y := y) B2.out hsB) b3); have sz3 : s < w3.heap.size := Blk.lt S3.out; have LA := Lib.hid (Blk.alloc L3.out (.cells #[.int .i64 0, .int .i64 0] 39)); have SA := Lib.hid (Blk.alloc S3.out (.cells #[.int .i64 0, .int .i64 0] 39)); have BA := Lib.hid (B3.out.alloc B3.out.size (.cells #[.int .i64 0, .int .i64 0] 39)); have t2 : w3.cell? ⟨s, 2, none⟩ = some (.int .i64 y.B) := S3.out.cell 2; have t3 : w3.cell? ⟨s, 3, none⟩ = some (.int .i64 y.S) := S3.out.cell 3; have t4 : w3.cell? ⟨s, 4, none⟩ = some (.int .i64 y.bytes) := S3.out.cell 4; have t5 : w3.cell? ⟨s, 5, none⟩ = some (.int .i64 y.peak) := S3.out.cell 5; have t6 : w3.cell? ⟨s, 6, none⟩ = some (.int .i64 y.steps) := S3.out.cell 6; have t7 : w3.cell? ⟨s, 7, none⟩ = some (.int .i64 0) := (by have q : w3.cell? ⟨s, 7, none⟩ = some (.int .i64 y.reason) := S3.out.cell 7; rw [RZ.out] at q; exact q); have t8 : w3.cell? ⟨s, 8, none⟩ = some (.int .i64 0) := (by have q : w3.cell? ⟨s, 8, none⟩ = some (.int .i64 y.asked) := S3.out.cell 8; rw [AZ.out] at q; exact q); clear b3))
          have hpk : decide (y.B < y.peak) = false := decide_eq_false (by have := OKY.out.p1; omega)
          have hst : decide (y.S < y.steps) = false := decide_eq_false (by have := OKY.out.t1; omega)
          go_quiet ((first | (go_at_call 30; exact Calls.quiet_of_same ((bytes_any g y _ (by exact LA.out)).mono fun _ _ ⟨h, k⟩ => ⟨h, k.symm⟩)) | (go_at_call 31; exact Calls.quiet_of_same ((peak_any g y _ (by exact LA.out)).mono fun _ _ ⟨h, k⟩ => ⟨h, k.symm⟩)) | (go_at_call 32; exact Calls.quiet_of_same ((steps_any g y _ (by exact LA.out)).mono fun _ _ ⟨h, k⟩ => ⟨h, k.symm⟩)) | (go_at_call 33; exact Calls.quiet_of_same ((broken_at (by exact LA.out) EB.out).mono fun _ _ ⟨h, k⟩ => ⟨h, k.symm⟩))))
          go_wp2_with fail
          have LB : LedAt ((w3.alloc (.cells #[.int .i64 0, .int .i64 0] 39)).drewN nq) g y := Blk.drewN LA.out nq
          have SB : SAt ((w3.alloc (.cells #[.int .i64 0, .int .i64 0] 39)).drewN nq) s y := Blk.drewN SA.out nq
          have BB : Below w.heap.size w ((w3.alloc (.cells #[.int .i64 0, .int .i64 0] 39)).drewN nq) := below_drewN BA.out nq
          generalize (w3.alloc (.cells #[.int .i64 0, .int .i64 0] 39)).drewN nq = wv at LB SB BB ⊢
          have e2 : wv.cell? ⟨s, 2, none⟩ = some (.int .i64 y.B) := SB.cell 2
          have e3 : wv.cell? ⟨s, 3, none⟩ = some (.int .i64 y.S) := SB.cell 3
          have LBH := Lib.hid LB
          have SBH := Lib.hid SB
          have BBH := Lib.hid BB
          clear LB SB BB
          go_quiet ((first | (go_at_call 30; exact Calls.quiet_of_same ((bytes_any g y _ (by exact LBH.out)).mono fun _ _ ⟨h, k⟩ => ⟨h, k.symm⟩)) | (go_at_call 31; exact Calls.quiet_of_same ((peak_any g y _ (by exact LBH.out)).mono fun _ _ ⟨h, k⟩ => ⟨h, k.symm⟩)) | (go_at_call 32; exact Calls.quiet_of_same ((steps_any g y _ (by exact LBH.out)).mono fun _ _ ⟨h, k⟩ => ⟨h, k.symm⟩)) | (go_at_call 33; exact Calls.quiet_of_same ((broken_at (by exact LBH.out) EB.out).mono fun _ _ ⟨h, k⟩ => ⟨h, k.symm⟩))))
          go_wp2_with fail
          go_roundg (n - (q + 1))
          case measure => omega
          case rel => exact ⟨q + 1, y, by omega, by omega, by go_num, OKY.out, ASK.out, Blk.drewN LBH.out _, Blk.drewN SBH.out _, below_drewN BBH.out _⟩
        · have ER := Lib.hid (show (if y.reason = 0 then 0 else y.reason) = y.reason from if_neg hz)
          have EA := Lib.hid (show (if y.reason = 0 then 0 else y.asked) = y.asked from if_neg hz)
          have EB := Lib.hid (show decide (y.reason ≠ 0) = true from decide_eq_true hz)
          have hz1 : (y.reason == 0) = false := by simpa using hz
          have hz2 : (y.reason != 0) = true := by simpa using hz
          have hz3 : decide (y.reason = 0) = false := decide_eq_false hz
          go_wp2_with (first
            | (go_at_call 23; refine (take_at (Blk.alloc H.out _) OKX.out E.out).mono ?_; rintro e w1 ⟨rfl, h1, b1⟩; have O1 : Blk w1 wr.heap.size 32 #[.int .i64 2, .int .i64 nn, .int .i64 mm] := Blk.grown (Blk.new_at _ _ _ rfl) b1 hno; have o1 : w1.cell? ⟨wr.heap.size, 1, none⟩ = some (.int .i64 nn) := O1.cell 1; have o2 : w1.cell? ⟨wr.heap.size, 2, none⟩ = some (.int .i64 mm) := O1.cell 2; have S1 : SAt w1 s x := Blk.grown (Blk.alloc FX.out _) b1 hns; have v0 : w1.cell? ⟨s, 0, none⟩ = some (.int .i64 x.W) := S1.cell 0; have v1 : w1.cell? ⟨s, 1, none⟩ = some (.int .i64 x.H) := S1.cell 1; have v2 : w1.cell? ⟨s, 2, none⟩ = some (.int .i64 x.B) := S1.cell 2; have v3 : w1.cell? ⟨s, 3, none⟩ = some (.int .i64 x.S) := S1.cell 3; have v4 : w1.cell? ⟨s, 4, none⟩ = some (.int .i64 x.bytes) := S1.cell 4; have v5 : w1.cell? ⟨s, 5, none⟩ = some (.int .i64 x.peak) := S1.cell 5; have v6 : w1.cell? ⟨s, 6, none⟩ = some (.int .i64 x.steps) := S1.cell 6; have v7 : w1.cell? ⟨s, 7, none⟩ = some (.int .i64 x.reason) := S1.cell 7; have v8 : w1.cell? ⟨s, 8, none⟩ = some (.int .i64 x.asked) := S1.cell 8; have H1 := Lib.hid h1; have B1 := Lib.hid (below_step (BX.out.alloc BX.out.size _) b1 hgB); have SS1 := Lib.hid S1; clear h1 b1 O1 S1)
            | (go_at_call 24; refine (R2.out _).mono ?_; rintro e w2 ⟨rfl, b2⟩; have S2 : SAt w2 s x := Blk.below SS1.out b2 (Blk.lt SS1.out); have u0 : w2.cell? ⟨s, 0, none⟩ = some (.int .i64 x.W) := S2.cell 0; have u1 : w2.cell? ⟨s, 1, none⟩ = some (.int .i64 x.H) := S2.cell 1; have u2 : w2.cell? ⟨s, 2, none⟩ = some (.int .i64 x.B) := S2.cell 2; have u3 : w2.cell? ⟨s, 3, none⟩ = some (.int .i64 x.S) := S2.cell 3; have u4 : w2.cell? ⟨s, 4, none⟩ = some (.int .i64 x.bytes) := S2.cell 4; have u5 : w2.cell? ⟨s, 5, none⟩ = some (.int .i64 x.peak) := S2.cell 5; have u6 : w2.cell? ⟨s, 6, none⟩ = some (.int .i64 x.steps) := S2.cell 6; have u7 : w2.cell? ⟨s, 7, none⟩ = some (.int .i64 x.reason) := S2.cell 7; have u8 : w2.cell? ⟨s, 8, none⟩ = some (.int .i64 x.asked) := S2.cell 8; have z0 : w2.frozen? ⟨s, 0, none⟩ = false := S2.frozen 0; have z1 : w2.frozen? ⟨s, 1, none⟩ = false := S2.frozen 1; have z2 : w2.frozen? ⟨s, 2, none⟩ = false := S2.frozen 2; have z3 : w2.frozen? ⟨s, 3, none⟩ = false := S2.frozen 3; have z4 : w2.frozen? ⟨s, 4, none⟩ = false := S2.frozen 4; have z5 : w2.frozen? ⟨s, 5, none⟩ = false := S2.frozen 5; have z6 : w2.frozen? ⟨s, 6, none⟩ = false := S2.frozen 6; have z7 : w2.frozen? ⟨s, 7, none⟩ = false := S2.frozen 7; have z8 : w2.frozen? ⟨s, 8, none⟩ = false := S2.frozen 8; have SS2 := Lib.hid S2; have H2 := Lib.hid (Blk.below H1.out b2 (Blk.lt H1.out)); have B2 := Lib.hid (below_next B1.out b2); clear b2 S2 v0 v1 v2 v3 v4 v5 v6 v7 v8)
            | (go_at_call 29; refine (first_at (put9_led (y := y) H2.out hgs) ER.out EA.out EB.out).mono ?_; rintro e w3 ⟨rfl, b3⟩; have L3 := Lib.hid (Blk.below (put9_led (y := y) H2.out hgs) b3 (Blk.lt (put9_led (y := y) H2.out hgs))); have S3 := Lib.hid (show SAt w3 s y from Blk.below (put9_state (y := y) SS2.out) b3 (Blk.lt (put9_state (y := y) SS2.out))); have B3 := Lib.hid (below_next (put9_below (y := y) B2.out hsB) b3); have sz3 : s < w3.heap.size := Blk.lt S3.out; have LA := Lib.hid (Blk.alloc L3.out (.cells #[.int .i64 y.reason, .int .i64 y.asked] 39)); have SA := Lib.hid (Blk.alloc S3.out (.cells #[.int .i64 y.reason, .int .i64 y.asked] 39)); have BA := Lib.hid (B3.out.alloc B3.out.size (.cells #[.int .i64 y.reason, .int .i64 y.asked] 39)); have t2 : w3.cell? ⟨s, 2, none⟩ = some (.int .i64 y.B) := S3.out.cell 2; have t3 : w3.cell? ⟨s, 3, none⟩ = some (.int .i64 y.S) := S3.out.cell 3; have t4 : w3.cell? ⟨s, 4, none⟩ = some (.int .i64 y.bytes) := S3.out.cell 4; have t5 : w3.cell? ⟨s, 5, none⟩ = some (.int .i64 y.peak) := S3.out.cell 5; have t6 : w3.cell? ⟨s, 6, none⟩ = some (.int .i64 y.steps) := S3.out.cell 6; have t7 : w3.cell? ⟨s, 7, none⟩ = some (.int .i64 y.reason) := S3.out.cell 7; have t8 : w3.cell? ⟨s, 8, none⟩ = some (.int .i64 y.asked) := S3.out.cell 8; clear b3))
          have hpk : decide (y.B < y.peak) = false := decide_eq_false (by have := OKY.out.p1; omega)
          have hst : decide (y.S < y.steps) = false := decide_eq_false (by have := OKY.out.t1; omega)
          go_quiet ((first | (go_at_call 30; exact Calls.quiet_of_same ((bytes_any g y _ (by exact LA.out)).mono fun _ _ ⟨h, k⟩ => ⟨h, k.symm⟩)) | (go_at_call 31; exact Calls.quiet_of_same ((peak_any g y _ (by exact LA.out)).mono fun _ _ ⟨h, k⟩ => ⟨h, k.symm⟩)) | (go_at_call 32; exact Calls.quiet_of_same ((steps_any g y _ (by exact LA.out)).mono fun _ _ ⟨h, k⟩ => ⟨h, k.symm⟩)) | (go_at_call 33; exact Calls.quiet_of_same ((broken_at (by exact LA.out) EB.out).mono fun _ _ ⟨h, k⟩ => ⟨h, k.symm⟩))))
          go_wp2_with fail
          have LB : LedAt ((w3.alloc (.cells #[.int .i64 y.reason, .int .i64 y.asked] 39)).drewN nq) g y := Blk.drewN LA.out nq
          have SB : SAt ((w3.alloc (.cells #[.int .i64 y.reason, .int .i64 y.asked] 39)).drewN nq) s y := Blk.drewN SA.out nq
          have BB : Below w.heap.size w ((w3.alloc (.cells #[.int .i64 y.reason, .int .i64 y.asked] 39)).drewN nq) := below_drewN BA.out nq
          generalize (w3.alloc (.cells #[.int .i64 y.reason, .int .i64 y.asked] 39)).drewN nq = wv at LB SB BB ⊢
          have e2 : wv.cell? ⟨s, 2, none⟩ = some (.int .i64 y.B) := SB.cell 2
          have e3 : wv.cell? ⟨s, 3, none⟩ = some (.int .i64 y.S) := SB.cell 3
          have LBH := Lib.hid LB
          have SBH := Lib.hid SB
          have BBH := Lib.hid BB
          clear LB SB BB
          go_quiet ((first | (go_at_call 30; exact Calls.quiet_of_same ((bytes_any g y _ (by exact LBH.out)).mono fun _ _ ⟨h, k⟩ => ⟨h, k.symm⟩)) | (go_at_call 31; exact Calls.quiet_of_same ((peak_any g y _ (by exact LBH.out)).mono fun _ _ ⟨h, k⟩ => ⟨h, k.symm⟩)) | (go_at_call 32; exact Calls.quiet_of_same ((steps_any g y _ (by exact LBH.out)).mono fun _ _ ⟨h, k⟩ => ⟨h, k.symm⟩)) | (go_at_call 33; exact Calls.quiet_of_same ((broken_at (by exact LBH.out) EB.out).mono fun _ _ ⟨h, k⟩ => ⟨h, k.symm⟩))))
          go_wp2_with fail
          go_roundg (n - (q + 1))
          case measure => omega
          case rel => exact ⟨q + 1, y, by omega, by omega, by go_num, OKY.out, ASK.out, Blk.drewN LBH.out _, Blk.drewN SBH.out _, below_drewN BBH.out _⟩
      · obtain ⟨y, bb, e⟩ : ∃ y bb, x.give nn = (y, bb) := ⟨_, _, rfl⟩
        have hy : x.step 3 nn mm = y := congrArg Prod.fst e
        have R2 := fun w => r2give_any x nn w OKX.out
        simp only [e] at R2
        replace R2 := Lib.hid R2
        have E := Lib.hid e
        have OKY := Lib.hid (show y.Ok from hy ▸ OKX.out.step _ nn mm)
        have ASK := Lib.hid (show y.reason = 0 → y.asked = 0 from hy ▸ Led.step_asked AX.out _ nn mm)
        clear e hy
        by_cases hz : y.reason = 0
        · have RZ := Lib.hid hz
          have AZ := Lib.hid (ASK.out hz)
          have ER := Lib.hid (show (if y.reason = 0 then 0 else y.reason) = 0 from if_pos hz)
          have EA := Lib.hid (show (if y.reason = 0 then 0 else y.asked) = 0 from if_pos hz)
          have EB := Lib.hid (show decide (y.reason ≠ 0) = false from had_no0 hz)
          clear hz
          go_wp2_with (first
            | (go_at_call 25; refine (give_at (Blk.alloc H.out _) OKX.out E.out).mono ?_; rintro e w1 ⟨rfl, h1, b1⟩; have O1 : Blk w1 wr.heap.size 32 #[.int .i64 3, .int .i64 nn, .int .i64 mm] := Blk.grown (Blk.new_at _ _ _ rfl) b1 hno; have o1 : w1.cell? ⟨wr.heap.size, 1, none⟩ = some (.int .i64 nn) := O1.cell 1; have o2 : w1.cell? ⟨wr.heap.size, 2, none⟩ = some (.int .i64 mm) := O1.cell 2; have S1 : SAt w1 s x := Blk.grown (Blk.alloc FX.out _) b1 hns; have v0 : w1.cell? ⟨s, 0, none⟩ = some (.int .i64 x.W) := S1.cell 0; have v1 : w1.cell? ⟨s, 1, none⟩ = some (.int .i64 x.H) := S1.cell 1; have v2 : w1.cell? ⟨s, 2, none⟩ = some (.int .i64 x.B) := S1.cell 2; have v3 : w1.cell? ⟨s, 3, none⟩ = some (.int .i64 x.S) := S1.cell 3; have v4 : w1.cell? ⟨s, 4, none⟩ = some (.int .i64 x.bytes) := S1.cell 4; have v5 : w1.cell? ⟨s, 5, none⟩ = some (.int .i64 x.peak) := S1.cell 5; have v6 : w1.cell? ⟨s, 6, none⟩ = some (.int .i64 x.steps) := S1.cell 6; have v7 : w1.cell? ⟨s, 7, none⟩ = some (.int .i64 x.reason) := S1.cell 7; have v8 : w1.cell? ⟨s, 8, none⟩ = some (.int .i64 x.asked) := S1.cell 8; have H1 := Lib.hid h1; have B1 := Lib.hid (below_step (BX.out.alloc BX.out.size _) b1 hgB); have SS1 := Lib.hid S1; clear h1 b1 O1 S1)
            | (go_at_call 26; refine (R2.out _).mono ?_; rintro e w2 ⟨rfl, b2⟩; have S2 : SAt w2 s x := Blk.below SS1.out b2 (Blk.lt SS1.out); have u0 : w2.cell? ⟨s, 0, none⟩ = some (.int .i64 x.W) := S2.cell 0; have u1 : w2.cell? ⟨s, 1, none⟩ = some (.int .i64 x.H) := S2.cell 1; have u2 : w2.cell? ⟨s, 2, none⟩ = some (.int .i64 x.B) := S2.cell 2; have u3 : w2.cell? ⟨s, 3, none⟩ = some (.int .i64 x.S) := S2.cell 3; have u4 : w2.cell? ⟨s, 4, none⟩ = some (.int .i64 x.bytes) := S2.cell 4; have u5 : w2.cell? ⟨s, 5, none⟩ = some (.int .i64 x.peak) := S2.cell 5; have u6 : w2.cell? ⟨s, 6, none⟩ = some (.int .i64 x.steps) := S2.cell 6; have u7 : w2.cell? ⟨s, 7, none⟩ = some (.int .i64 x.reason) := S2.cell 7; have u8 : w2.cell? ⟨s, 8, none⟩ = some (.int .i64 x.asked) := S2.cell 8; have z0 : w2.frozen? ⟨s, 0, none⟩ = false := S2.frozen 0; have z1 : w2.frozen? ⟨s, 1, none⟩ = false := S2.frozen 1; have z2 : w2.frozen? ⟨s, 2, none⟩ = false := S2.frozen 2; have z3 : w2.frozen? ⟨s, 3, none⟩ = false := S2.frozen 3; have z4 : w2.frozen? ⟨s, 4, none⟩ = false := S2.frozen 4; have z5 : w2.frozen? ⟨s, 5, none⟩ = false := S2.frozen 5; have z6 : w2.frozen? ⟨s, 6, none⟩ = false := S2.frozen 6; have z7 : w2.frozen? ⟨s, 7, none⟩ = false := S2.frozen 7; have z8 : w2.frozen? ⟨s, 8, none⟩ = false := S2.frozen 8; have SS2 := Lib.hid S2; have H2 := Lib.hid (Blk.below H1.out b2 (Blk.lt H1.out)); have B2 := Lib.hid (below_next B1.out b2); clear b2 S2 v0 v1 v2 v3 v4 v5 v6 v7 v8)
            | (go_at_call 29; refine (first_at (put9_led (y := y) H2.out hgs) ER.out EA.out EB.out).mono ?_; rintro e w3 ⟨rfl, b3⟩; have L3 := Lib.hid (Blk.below (put9_led (y := y) H2.out hgs) b3 (Blk.lt (put9_led (y := y) H2.out hgs))); have S3 := Lib.hid (show SAt w3 s y from Blk.below (put9_state (y := y) SS2.out) b3 (Blk.lt (put9_state (y := y) SS2.out))); have B3 := Lib.hid (below_next (put9_below (y := y) B2.out hsB) b3); have sz3 : s < w3.heap.size := Blk.lt S3.out; have LA := Lib.hid (Blk.alloc L3.out (.cells #[.int .i64 0, .int .i64 0] 39)); have SA := Lib.hid (Blk.alloc S3.out (.cells #[.int .i64 0, .int .i64 0] 39)); have BA := Lib.hid (B3.out.alloc B3.out.size (.cells #[.int .i64 0, .int .i64 0] 39)); have t2 : w3.cell? ⟨s, 2, none⟩ = some (.int .i64 y.B) := S3.out.cell 2; have t3 : w3.cell? ⟨s, 3, none⟩ = some (.int .i64 y.S) := S3.out.cell 3; have t4 : w3.cell? ⟨s, 4, none⟩ = some (.int .i64 y.bytes) := S3.out.cell 4; have t5 : w3.cell? ⟨s, 5, none⟩ = some (.int .i64 y.peak) := S3.out.cell 5; have t6 : w3.cell? ⟨s, 6, none⟩ = some (.int .i64 y.steps) := S3.out.cell 6; have t7 : w3.cell? ⟨s, 7, none⟩ = some (.int .i64 0) := (by have q : w3.cell? ⟨s, 7, none⟩ = some (.int .i64 y.reason) := S3.out.cell 7; rw [RZ.out] at q; exact q); have t8 : w3.cell? ⟨s, 8, none⟩ = some (.int .i64 0) := (by have q : w3.cell? ⟨s, 8, none⟩ = some (.int .i64 y.asked) := S3.out.cell 8; rw [AZ.out] at q; exact q); clear b3))
          have hpk : decide (y.B < y.peak) = false := decide_eq_false (by have := OKY.out.p1; omega)
          have hst : decide (y.S < y.steps) = false := decide_eq_false (by have := OKY.out.t1; omega)
          go_quiet ((first | (go_at_call 30; exact Calls.quiet_of_same ((bytes_any g y _ (by exact LA.out)).mono fun _ _ ⟨h, k⟩ => ⟨h, k.symm⟩)) | (go_at_call 31; exact Calls.quiet_of_same ((peak_any g y _ (by exact LA.out)).mono fun _ _ ⟨h, k⟩ => ⟨h, k.symm⟩)) | (go_at_call 32; exact Calls.quiet_of_same ((steps_any g y _ (by exact LA.out)).mono fun _ _ ⟨h, k⟩ => ⟨h, k.symm⟩)) | (go_at_call 33; exact Calls.quiet_of_same ((broken_at (by exact LA.out) EB.out).mono fun _ _ ⟨h, k⟩ => ⟨h, k.symm⟩))))
          go_wp2_with fail
          have LB : LedAt ((w3.alloc (.cells #[.int .i64 0, .int .i64 0] 39)).drewN nq) g y := Blk.drewN LA.out nq
          have SB : SAt ((w3.alloc (.cells #[.int .i64 0, .int .i64 0] 39)).drewN nq) s y := Blk.drewN SA.out nq
          have BB : Below w.heap.size w ((w3.alloc (.cells #[.int .i64 0, .int .i64 0] 39)).drewN nq) := below_drewN BA.out nq
          generalize (w3.alloc (.cells #[.int .i64 0, .int .i64 0] 39)).drewN nq = wv at LB SB BB ⊢
          have e2 : wv.cell? ⟨s, 2, none⟩ = some (.int .i64 y.B) := SB.cell 2
          have e3 : wv.cell? ⟨s, 3, none⟩ = some (.int .i64 y.S) := SB.cell 3
          have LBH := Lib.hid LB
          have SBH := Lib.hid SB
          have BBH := Lib.hid BB
          clear LB SB BB
          go_quiet ((first | (go_at_call 30; exact Calls.quiet_of_same ((bytes_any g y _ (by exact LBH.out)).mono fun _ _ ⟨h, k⟩ => ⟨h, k.symm⟩)) | (go_at_call 31; exact Calls.quiet_of_same ((peak_any g y _ (by exact LBH.out)).mono fun _ _ ⟨h, k⟩ => ⟨h, k.symm⟩)) | (go_at_call 32; exact Calls.quiet_of_same ((steps_any g y _ (by exact LBH.out)).mono fun _ _ ⟨h, k⟩ => ⟨h, k.symm⟩)) | (go_at_call 33; exact Calls.quiet_of_same ((broken_at (by exact LBH.out) EB.out).mono fun _ _ ⟨h, k⟩ => ⟨h, k.symm⟩))))
          go_wp2_with fail
          go_roundg (n - (q + 1))
          case measure => omega
          case rel => exact ⟨q + 1, y, by omega, by omega, by go_num, OKY.out, ASK.out, Blk.drewN LBH.out _, Blk.drewN SBH.out _, below_drewN BBH.out _⟩
        · have ER := Lib.hid (show (if y.reason = 0 then 0 else y.reason) = y.reason from if_neg hz)
          have EA := Lib.hid (show (if y.reason = 0 then 0 else y.asked) = y.asked from if_neg hz)
          have EB := Lib.hid (show decide (y.reason ≠ 0) = true from decide_eq_true hz)
          have hz1 : (y.reason == 0) = false := by simpa using hz
          have hz2 : (y.reason != 0) = true := by simpa using hz
          have hz3 : decide (y.reason = 0) = false := decide_eq_false hz
          go_wp2_with (first
            | (go_at_call 25; refine (give_at (Blk.alloc H.out _) OKX.out E.out).mono ?_; rintro e w1 ⟨rfl, h1, b1⟩; have O1 : Blk w1 wr.heap.size 32 #[.int .i64 3, .int .i64 nn, .int .i64 mm] := Blk.grown (Blk.new_at _ _ _ rfl) b1 hno; have o1 : w1.cell? ⟨wr.heap.size, 1, none⟩ = some (.int .i64 nn) := O1.cell 1; have o2 : w1.cell? ⟨wr.heap.size, 2, none⟩ = some (.int .i64 mm) := O1.cell 2; have S1 : SAt w1 s x := Blk.grown (Blk.alloc FX.out _) b1 hns; have v0 : w1.cell? ⟨s, 0, none⟩ = some (.int .i64 x.W) := S1.cell 0; have v1 : w1.cell? ⟨s, 1, none⟩ = some (.int .i64 x.H) := S1.cell 1; have v2 : w1.cell? ⟨s, 2, none⟩ = some (.int .i64 x.B) := S1.cell 2; have v3 : w1.cell? ⟨s, 3, none⟩ = some (.int .i64 x.S) := S1.cell 3; have v4 : w1.cell? ⟨s, 4, none⟩ = some (.int .i64 x.bytes) := S1.cell 4; have v5 : w1.cell? ⟨s, 5, none⟩ = some (.int .i64 x.peak) := S1.cell 5; have v6 : w1.cell? ⟨s, 6, none⟩ = some (.int .i64 x.steps) := S1.cell 6; have v7 : w1.cell? ⟨s, 7, none⟩ = some (.int .i64 x.reason) := S1.cell 7; have v8 : w1.cell? ⟨s, 8, none⟩ = some (.int .i64 x.asked) := S1.cell 8; have H1 := Lib.hid h1; have B1 := Lib.hid (below_step (BX.out.alloc BX.out.size _) b1 hgB); have SS1 := Lib.hid S1; clear h1 b1 O1 S1)
            | (go_at_call 26; refine (R2.out _).mono ?_; rintro e w2 ⟨rfl, b2⟩; have S2 : SAt w2 s x := Blk.below SS1.out b2 (Blk.lt SS1.out); have u0 : w2.cell? ⟨s, 0, none⟩ = some (.int .i64 x.W) := S2.cell 0; have u1 : w2.cell? ⟨s, 1, none⟩ = some (.int .i64 x.H) := S2.cell 1; have u2 : w2.cell? ⟨s, 2, none⟩ = some (.int .i64 x.B) := S2.cell 2; have u3 : w2.cell? ⟨s, 3, none⟩ = some (.int .i64 x.S) := S2.cell 3; have u4 : w2.cell? ⟨s, 4, none⟩ = some (.int .i64 x.bytes) := S2.cell 4; have u5 : w2.cell? ⟨s, 5, none⟩ = some (.int .i64 x.peak) := S2.cell 5; have u6 : w2.cell? ⟨s, 6, none⟩ = some (.int .i64 x.steps) := S2.cell 6; have u7 : w2.cell? ⟨s, 7, none⟩ = some (.int .i64 x.reason) := S2.cell 7; have u8 : w2.cell? ⟨s, 8, none⟩ = some (.int .i64 x.asked) := S2.cell 8; have z0 : w2.frozen? ⟨s, 0, none⟩ = false := S2.frozen 0; have z1 : w2.frozen? ⟨s, 1, none⟩ = false := S2.frozen 1; have z2 : w2.frozen? ⟨s, 2, none⟩ = false := S2.frozen 2; have z3 : w2.frozen? ⟨s, 3, none⟩ = false := S2.frozen 3; have z4 : w2.frozen? ⟨s, 4, none⟩ = false := S2.frozen 4; have z5 : w2.frozen? ⟨s, 5, none⟩ = false := S2.frozen 5; have z6 : w2.frozen? ⟨s, 6, none⟩ = false := S2.frozen 6; have z7 : w2.frozen? ⟨s, 7, none⟩ = false := S2.frozen 7; have z8 : w2.frozen? ⟨s, 8, none⟩ = false := S2.frozen 8; have SS2 := Lib.hid S2; have H2 := Lib.hid (Blk.below H1.out b2 (Blk.lt H1.out)); have B2 := Lib.hid (below_next B1.out b2); clear b2 S2 v0 v1 v2 v3 v4 v5 v6 v7 v8)
            | (go_at_call 29; refine (first_at (put9_led (y := y) H2.out hgs) ER.out EA.out EB.out).mono ?_; rintro e w3 ⟨rfl, b3⟩; have L3 := Lib.hid (Blk.below (put9_led (y := y) H2.out hgs) b3 (Blk.lt (put9_led (y := y) H2.out hgs))); have S3 := Lib.hid (show SAt w3 s y from Blk.below (put9_state (y := y) SS2.out) b3 (Blk.lt (put9_state (y := y) SS2.out))); have B3 := Lib.hid (below_next (put9_below (y := y) B2.out hsB) b3); have sz3 : s < w3.heap.size := Blk.lt S3.out; have LA := Lib.hid (Blk.alloc L3.out (.cells #[.int .i64 y.reason, .int .i64 y.asked] 39)); have SA := Lib.hid (Blk.alloc S3.out (.cells #[.int .i64 y.reason, .int .i64 y.asked] 39)); have BA := Lib.hid (B3.out.alloc B3.out.size (.cells #[.int .i64 y.reason, .int .i64 y.asked] 39)); have t2 : w3.cell? ⟨s, 2, none⟩ = some (.int .i64 y.B) := S3.out.cell 2; have t3 : w3.cell? ⟨s, 3, none⟩ = some (.int .i64 y.S) := S3.out.cell 3; have t4 : w3.cell? ⟨s, 4, none⟩ = some (.int .i64 y.bytes) := S3.out.cell 4; have t5 : w3.cell? ⟨s, 5, none⟩ = some (.int .i64 y.peak) := S3.out.cell 5; have t6 : w3.cell? ⟨s, 6, none⟩ = some (.int .i64 y.steps) := S3.out.cell 6; have t7 : w3.cell? ⟨s, 7, none⟩ = some (.int .i64 y.reason) := S3.out.cell 7; have t8 : w3.cell? ⟨s, 8, none⟩ = some (.int .i64 y.asked) := S3.out.cell 8; clear b3))
          have hpk : decide (y.B < y.peak) = false := decide_eq_false (by have := OKY.out.p1; omega)
          have hst : decide (y.S < y.steps) = false := decide_eq_false (by have := OKY.out.t1; omega)
          go_quiet ((first | (go_at_call 30; exact Calls.quiet_of_same ((bytes_any g y _ (by exact LA.out)).mono fun _ _ ⟨h, k⟩ => ⟨h, k.symm⟩)) | (go_at_call 31; exact Calls.quiet_of_same ((peak_any g y _ (by exact LA.out)).mono fun _ _ ⟨h, k⟩ => ⟨h, k.symm⟩)) | (go_at_call 32; exact Calls.quiet_of_same ((steps_any g y _ (by exact LA.out)).mono fun _ _ ⟨h, k⟩ => ⟨h, k.symm⟩)) | (go_at_call 33; exact Calls.quiet_of_same ((broken_at (by exact LA.out) EB.out).mono fun _ _ ⟨h, k⟩ => ⟨h, k.symm⟩))))
          go_wp2_with fail
          have LB : LedAt ((w3.alloc (.cells #[.int .i64 y.reason, .int .i64 y.asked] 39)).drewN nq) g y := Blk.drewN LA.out nq
          have SB : SAt ((w3.alloc (.cells #[.int .i64 y.reason, .int .i64 y.asked] 39)).drewN nq) s y := Blk.drewN SA.out nq
          have BB : Below w.heap.size w ((w3.alloc (.cells #[.int .i64 y.reason, .int .i64 y.asked] 39)).drewN nq) := below_drewN BA.out nq
          generalize (w3.alloc (.cells #[.int .i64 y.reason, .int .i64 y.asked] 39)).drewN nq = wv at LB SB BB ⊢
          have e2 : wv.cell? ⟨s, 2, none⟩ = some (.int .i64 y.B) := SB.cell 2
          have e3 : wv.cell? ⟨s, 3, none⟩ = some (.int .i64 y.S) := SB.cell 3
          have LBH := Lib.hid LB
          have SBH := Lib.hid SB
          have BBH := Lib.hid BB
          clear LB SB BB
          go_quiet ((first | (go_at_call 30; exact Calls.quiet_of_same ((bytes_any g y _ (by exact LBH.out)).mono fun _ _ ⟨h, k⟩ => ⟨h, k.symm⟩)) | (go_at_call 31; exact Calls.quiet_of_same ((peak_any g y _ (by exact LBH.out)).mono fun _ _ ⟨h, k⟩ => ⟨h, k.symm⟩)) | (go_at_call 32; exact Calls.quiet_of_same ((steps_any g y _ (by exact LBH.out)).mono fun _ _ ⟨h, k⟩ => ⟨h, k.symm⟩)) | (go_at_call 33; exact Calls.quiet_of_same ((broken_at (by exact LBH.out) EB.out).mono fun _ _ ⟨h, k⟩ => ⟨h, k.symm⟩))))
          go_wp2_with fail
          go_roundg (n - (q + 1))
          case measure => omega
          case rel => exact ⟨q + 1, y, by omega, by omega, by go_num, OKY.out, ASK.out, Blk.drewN LBH.out _, Blk.drewN SBH.out _, below_drewN BBH.out _⟩
      · obtain ⟨y, bb, e⟩ : ∃ y bb, x.work nn = (y, bb) := ⟨_, _, rfl⟩
        have hy : x.step 4 nn mm = y := congrArg Prod.fst e
        have R2 := fun w => r2work_any x nn w OKX.out
        simp only [e] at R2
        replace R2 := Lib.hid R2
        have E := Lib.hid e
        have OKY := Lib.hid (show y.Ok from hy ▸ OKX.out.step _ nn mm)
        have ASK := Lib.hid (show y.reason = 0 → y.asked = 0 from hy ▸ Led.step_asked AX.out _ nn mm)
        clear e hy
        by_cases hz : y.reason = 0
        · have RZ := Lib.hid hz
          have AZ := Lib.hid (ASK.out hz)
          have ER := Lib.hid (show (if y.reason = 0 then 0 else y.reason) = 0 from if_pos hz)
          have EA := Lib.hid (show (if y.reason = 0 then 0 else y.asked) = 0 from if_pos hz)
          have EB := Lib.hid (show decide (y.reason ≠ 0) = false from had_no0 hz)
          clear hz
          go_wp2_with (first
            | (go_at_call 27; refine (work_at (Blk.alloc H.out _) OKX.out E.out).mono ?_; rintro e w1 ⟨rfl, h1, b1⟩; have O1 : Blk w1 wr.heap.size 32 #[.int .i64 4, .int .i64 nn, .int .i64 mm] := Blk.grown (Blk.new_at _ _ _ rfl) b1 hno; have o1 : w1.cell? ⟨wr.heap.size, 1, none⟩ = some (.int .i64 nn) := O1.cell 1; have o2 : w1.cell? ⟨wr.heap.size, 2, none⟩ = some (.int .i64 mm) := O1.cell 2; have S1 : SAt w1 s x := Blk.grown (Blk.alloc FX.out _) b1 hns; have v0 : w1.cell? ⟨s, 0, none⟩ = some (.int .i64 x.W) := S1.cell 0; have v1 : w1.cell? ⟨s, 1, none⟩ = some (.int .i64 x.H) := S1.cell 1; have v2 : w1.cell? ⟨s, 2, none⟩ = some (.int .i64 x.B) := S1.cell 2; have v3 : w1.cell? ⟨s, 3, none⟩ = some (.int .i64 x.S) := S1.cell 3; have v4 : w1.cell? ⟨s, 4, none⟩ = some (.int .i64 x.bytes) := S1.cell 4; have v5 : w1.cell? ⟨s, 5, none⟩ = some (.int .i64 x.peak) := S1.cell 5; have v6 : w1.cell? ⟨s, 6, none⟩ = some (.int .i64 x.steps) := S1.cell 6; have v7 : w1.cell? ⟨s, 7, none⟩ = some (.int .i64 x.reason) := S1.cell 7; have v8 : w1.cell? ⟨s, 8, none⟩ = some (.int .i64 x.asked) := S1.cell 8; have H1 := Lib.hid h1; have B1 := Lib.hid (below_step (BX.out.alloc BX.out.size _) b1 hgB); have SS1 := Lib.hid S1; clear h1 b1 O1 S1)
            | (go_at_call 28; refine (R2.out _).mono ?_; rintro e w2 ⟨rfl, b2⟩; have S2 : SAt w2 s x := Blk.below SS1.out b2 (Blk.lt SS1.out); have u0 : w2.cell? ⟨s, 0, none⟩ = some (.int .i64 x.W) := S2.cell 0; have u1 : w2.cell? ⟨s, 1, none⟩ = some (.int .i64 x.H) := S2.cell 1; have u2 : w2.cell? ⟨s, 2, none⟩ = some (.int .i64 x.B) := S2.cell 2; have u3 : w2.cell? ⟨s, 3, none⟩ = some (.int .i64 x.S) := S2.cell 3; have u4 : w2.cell? ⟨s, 4, none⟩ = some (.int .i64 x.bytes) := S2.cell 4; have u5 : w2.cell? ⟨s, 5, none⟩ = some (.int .i64 x.peak) := S2.cell 5; have u6 : w2.cell? ⟨s, 6, none⟩ = some (.int .i64 x.steps) := S2.cell 6; have u7 : w2.cell? ⟨s, 7, none⟩ = some (.int .i64 x.reason) := S2.cell 7; have u8 : w2.cell? ⟨s, 8, none⟩ = some (.int .i64 x.asked) := S2.cell 8; have z0 : w2.frozen? ⟨s, 0, none⟩ = false := S2.frozen 0; have z1 : w2.frozen? ⟨s, 1, none⟩ = false := S2.frozen 1; have z2 : w2.frozen? ⟨s, 2, none⟩ = false := S2.frozen 2; have z3 : w2.frozen? ⟨s, 3, none⟩ = false := S2.frozen 3; have z4 : w2.frozen? ⟨s, 4, none⟩ = false := S2.frozen 4; have z5 : w2.frozen? ⟨s, 5, none⟩ = false := S2.frozen 5; have z6 : w2.frozen? ⟨s, 6, none⟩ = false := S2.frozen 6; have z7 : w2.frozen? ⟨s, 7, none⟩ = false := S2.frozen 7; have z8 : w2.frozen? ⟨s, 8, none⟩ = false := S2.frozen 8; have SS2 := Lib.hid S2; have H2 := Lib.hid (Blk.below H1.out b2 (Blk.lt H1.out)); have B2 := Lib.hid (below_next B1.out b2); clear b2 S2 v0 v1 v2 v3 v4 v5 v6 v7 v8)
            | (go_at_call 29; refine (first_at (put9_led (y := y) H2.out hgs) ER.out EA.out EB.out).mono ?_; rintro e w3 ⟨rfl, b3⟩; have L3 := Lib.hid (Blk.below (put9_led (y := y) H2.out hgs) b3 (Blk.lt (put9_led (y := y) H2.out hgs))); have S3 := Lib.hid (show SAt w3 s y from Blk.below (put9_state (y := y) SS2.out) b3 (Blk.lt (put9_state (y := y) SS2.out))); have B3 := Lib.hid (below_next (put9_below (y := y) B2.out hsB) b3); have sz3 : s < w3.heap.size := Blk.lt S3.out; have LA := Lib.hid (Blk.alloc L3.out (.cells #[.int .i64 0, .int .i64 0] 39)); have SA := Lib.hid (Blk.alloc S3.out (.cells #[.int .i64 0, .int .i64 0] 39)); have BA := Lib.hid (B3.out.alloc B3.out.size (.cells #[.int .i64 0, .int .i64 0] 39)); have t2 : w3.cell? ⟨s, 2, none⟩ = some (.int .i64 y.B) := S3.out.cell 2; have t3 : w3.cell? ⟨s, 3, none⟩ = some (.int .i64 y.S) := S3.out.cell 3; have t4 : w3.cell? ⟨s, 4, none⟩ = some (.int .i64 y.bytes) := S3.out.cell 4; have t5 : w3.cell? ⟨s, 5, none⟩ = some (.int .i64 y.peak) := S3.out.cell 5; have t6 : w3.cell? ⟨s, 6, none⟩ = some (.int .i64 y.steps) := S3.out.cell 6; have t7 : w3.cell? ⟨s, 7, none⟩ = some (.int .i64 0) := (by have q : w3.cell? ⟨s, 7, none⟩ = some (.int .i64 y.reason) := S3.out.cell 7; rw [RZ.out] at q; exact q); have t8 : w3.cell? ⟨s, 8, none⟩ = some (.int .i64 0) := (by have q : w3.cell? ⟨s, 8, none⟩ = some (.int .i64 y.asked) := S3.out.cell 8; rw [AZ.out] at q; exact q); clear b3))
          have hpk : decide (y.B < y.peak) = false := decide_eq_false (by have := OKY.out.p1; omega)
          have hst : decide (y.S < y.steps) = false := decide_eq_false (by have := OKY.out.t1; omega)
          go_quiet ((first | (go_at_call 30; exact Calls.quiet_of_same ((bytes_any g y _ (by exact LA.out)).mono fun _ _ ⟨h, k⟩ => ⟨h, k.symm⟩)) | (go_at_call 31; exact Calls.quiet_of_same ((peak_any g y _ (by exact LA.out)).mono fun _ _ ⟨h, k⟩ => ⟨h, k.symm⟩)) | (go_at_call 32; exact Calls.quiet_of_same ((steps_any g y _ (by exact LA.out)).mono fun _ _ ⟨h, k⟩ => ⟨h, k.symm⟩)) | (go_at_call 33; exact Calls.quiet_of_same ((broken_at (by exact LA.out) EB.out).mono fun _ _ ⟨h, k⟩ => ⟨h, k.symm⟩))))
          go_wp2_with fail
          have LB : LedAt ((w3.alloc (.cells #[.int .i64 0, .int .i64 0] 39)).drewN nq) g y := Blk.drewN LA.out nq
          have SB : SAt ((w3.alloc (.cells #[.int .i64 0, .int .i64 0] 39)).drewN nq) s y := Blk.drewN SA.out nq
          have BB : Below w.heap.size w ((w3.alloc (.cells #[.int .i64 0, .int .i64 0] 39)).drewN nq) := below_drewN BA.out nq
          generalize (w3.alloc (.cells #[.int .i64 0, .int .i64 0] 39)).drewN nq = wv at LB SB BB ⊢
          have e2 : wv.cell? ⟨s, 2, none⟩ = some (.int .i64 y.B) := SB.cell 2
          have e3 : wv.cell? ⟨s, 3, none⟩ = some (.int .i64 y.S) := SB.cell 3
          have LBH := Lib.hid LB
          have SBH := Lib.hid SB
          have BBH := Lib.hid BB
          clear LB SB BB
          go_quiet ((first | (go_at_call 30; exact Calls.quiet_of_same ((bytes_any g y _ (by exact LBH.out)).mono fun _ _ ⟨h, k⟩ => ⟨h, k.symm⟩)) | (go_at_call 31; exact Calls.quiet_of_same ((peak_any g y _ (by exact LBH.out)).mono fun _ _ ⟨h, k⟩ => ⟨h, k.symm⟩)) | (go_at_call 32; exact Calls.quiet_of_same ((steps_any g y _ (by exact LBH.out)).mono fun _ _ ⟨h, k⟩ => ⟨h, k.symm⟩)) | (go_at_call 33; exact Calls.quiet_of_same ((broken_at (by exact LBH.out) EB.out).mono fun _ _ ⟨h, k⟩ => ⟨h, k.symm⟩))))
          go_wp2_with fail
          go_roundg (n - (q + 1))
          case measure => omega
          case rel => exact ⟨q + 1, y, by omega, by omega, by go_num, OKY.out, ASK.out, Blk.drewN LBH.out _, Blk.drewN SBH.out _, below_drewN BBH.out _⟩
        · have ER := Lib.hid (show (if y.reason = 0 then 0 else y.reason) = y.reason from if_neg hz)
          have EA := Lib.hid (show (if y.reason = 0 then 0 else y.asked) = y.asked from if_neg hz)
          have EB := Lib.hid (show decide (y.reason ≠ 0) = true from decide_eq_true hz)
          have hz1 : (y.reason == 0) = false := by simpa using hz
          have hz2 : (y.reason != 0) = true := by simpa using hz
          have hz3 : decide (y.reason = 0) = false := decide_eq_false hz
          go_wp2_with (first
            | (go_at_call 27; refine (work_at (Blk.alloc H.out _) OKX.out E.out).mono ?_; rintro e w1 ⟨rfl, h1, b1⟩; have O1 : Blk w1 wr.heap.size 32 #[.int .i64 4, .int .i64 nn, .int .i64 mm] := Blk.grown (Blk.new_at _ _ _ rfl) b1 hno; have o1 : w1.cell? ⟨wr.heap.size, 1, none⟩ = some (.int .i64 nn) := O1.cell 1; have o2 : w1.cell? ⟨wr.heap.size, 2, none⟩ = some (.int .i64 mm) := O1.cell 2; have S1 : SAt w1 s x := Blk.grown (Blk.alloc FX.out _) b1 hns; have v0 : w1.cell? ⟨s, 0, none⟩ = some (.int .i64 x.W) := S1.cell 0; have v1 : w1.cell? ⟨s, 1, none⟩ = some (.int .i64 x.H) := S1.cell 1; have v2 : w1.cell? ⟨s, 2, none⟩ = some (.int .i64 x.B) := S1.cell 2; have v3 : w1.cell? ⟨s, 3, none⟩ = some (.int .i64 x.S) := S1.cell 3; have v4 : w1.cell? ⟨s, 4, none⟩ = some (.int .i64 x.bytes) := S1.cell 4; have v5 : w1.cell? ⟨s, 5, none⟩ = some (.int .i64 x.peak) := S1.cell 5; have v6 : w1.cell? ⟨s, 6, none⟩ = some (.int .i64 x.steps) := S1.cell 6; have v7 : w1.cell? ⟨s, 7, none⟩ = some (.int .i64 x.reason) := S1.cell 7; have v8 : w1.cell? ⟨s, 8, none⟩ = some (.int .i64 x.asked) := S1.cell 8; have H1 := Lib.hid h1; have B1 := Lib.hid (below_step (BX.out.alloc BX.out.size _) b1 hgB); have SS1 := Lib.hid S1; clear h1 b1 O1 S1)
            | (go_at_call 28; refine (R2.out _).mono ?_; rintro e w2 ⟨rfl, b2⟩; have S2 : SAt w2 s x := Blk.below SS1.out b2 (Blk.lt SS1.out); have u0 : w2.cell? ⟨s, 0, none⟩ = some (.int .i64 x.W) := S2.cell 0; have u1 : w2.cell? ⟨s, 1, none⟩ = some (.int .i64 x.H) := S2.cell 1; have u2 : w2.cell? ⟨s, 2, none⟩ = some (.int .i64 x.B) := S2.cell 2; have u3 : w2.cell? ⟨s, 3, none⟩ = some (.int .i64 x.S) := S2.cell 3; have u4 : w2.cell? ⟨s, 4, none⟩ = some (.int .i64 x.bytes) := S2.cell 4; have u5 : w2.cell? ⟨s, 5, none⟩ = some (.int .i64 x.peak) := S2.cell 5; have u6 : w2.cell? ⟨s, 6, none⟩ = some (.int .i64 x.steps) := S2.cell 6; have u7 : w2.cell? ⟨s, 7, none⟩ = some (.int .i64 x.reason) := S2.cell 7; have u8 : w2.cell? ⟨s, 8, none⟩ = some (.int .i64 x.asked) := S2.cell 8; have z0 : w2.frozen? ⟨s, 0, none⟩ = false := S2.frozen 0; have z1 : w2.frozen? ⟨s, 1, none⟩ = false := S2.frozen 1; have z2 : w2.frozen? ⟨s, 2, none⟩ = false := S2.frozen 2; have z3 : w2.frozen? ⟨s, 3, none⟩ = false := S2.frozen 3; have z4 : w2.frozen? ⟨s, 4, none⟩ = false := S2.frozen 4; have z5 : w2.frozen? ⟨s, 5, none⟩ = false := S2.frozen 5; have z6 : w2.frozen? ⟨s, 6, none⟩ = false := S2.frozen 6; have z7 : w2.frozen? ⟨s, 7, none⟩ = false := S2.frozen 7; have z8 : w2.frozen? ⟨s, 8, none⟩ = false := S2.frozen 8; have SS2 := Lib.hid S2; have H2 := Lib.hid (Blk.below H1.out b2 (Blk.lt H1.out)); have B2 := Lib.hid (below_next B1.out b2); clear b2 S2 v0 v1 v2 v3 v4 v5 v6 v7 v8)
            | (go_at_call 29; refine (first_at (put9_led (y := y) H2.out hgs) ER.out EA.out EB.out).mono ?_; rintro e w3 ⟨rfl, b3⟩; have L3 := Lib.hid (Blk.below (put9_led (y := y) H2.out hgs) b3 (Blk.lt (put9_led (y := y) H2.out hgs))); have S3 := Lib.hid (show SAt w3 s y from Blk.below (put9_state (y := y) SS2.out) b3 (Blk.lt (put9_state (y := y) SS2.out))); have B3 := Lib.hid (below_next (put9_below (y := y) B2.out hsB) b3); have sz3 : s < w3.heap.size := Blk.lt S3.out; have LA := Lib.hid (Blk.alloc L3.out (.cells #[.int .i64 y.reason, .int .i64 y.asked] 39)); have SA := Lib.hid (Blk.alloc S3.out (.cells #[.int .i64 y.reason, .int .i64 y.asked] 39)); have BA := Lib.hid (B3.out.alloc B3.out.size (.cells #[.int .i64 y.reason, .int .i64 y.asked] 39)); have t2 : w3.cell? ⟨s, 2, none⟩ = some (.int .i64 y.B) := S3.out.cell 2; have t3 : w3.cell? ⟨s, 3, none⟩ = some (.int .i64 y.S) := S3.out.cell 3; have t4 : w3.cell? ⟨s, 4, none⟩ = some (.int .i64 y.bytes) := S3.out.cell 4; have t5 : w3.cell? ⟨s, 5, none⟩ = some (.int .i64 y.peak) := S3.out.cell 5; have t6 : w3.cell? ⟨s, 6, none⟩ = some (.int .i64 y.steps) := S3.out.cell 6; have t7 : w3.cell? ⟨s, 7, none⟩ = some (.int .i64 y.reason) := S3.out.cell 7; have t8 : w3.cell? ⟨s, 8, none⟩ = some (.int .i64 y.asked) := S3.out.cell 8; clear b3))
          have hpk : decide (y.B < y.peak) = false := decide_eq_false (by have := OKY.out.p1; omega)
          have hst : decide (y.S < y.steps) = false := decide_eq_false (by have := OKY.out.t1; omega)
          go_quiet ((first | (go_at_call 30; exact Calls.quiet_of_same ((bytes_any g y _ (by exact LA.out)).mono fun _ _ ⟨h, k⟩ => ⟨h, k.symm⟩)) | (go_at_call 31; exact Calls.quiet_of_same ((peak_any g y _ (by exact LA.out)).mono fun _ _ ⟨h, k⟩ => ⟨h, k.symm⟩)) | (go_at_call 32; exact Calls.quiet_of_same ((steps_any g y _ (by exact LA.out)).mono fun _ _ ⟨h, k⟩ => ⟨h, k.symm⟩)) | (go_at_call 33; exact Calls.quiet_of_same ((broken_at (by exact LA.out) EB.out).mono fun _ _ ⟨h, k⟩ => ⟨h, k.symm⟩))))
          go_wp2_with fail
          have LB : LedAt ((w3.alloc (.cells #[.int .i64 y.reason, .int .i64 y.asked] 39)).drewN nq) g y := Blk.drewN LA.out nq
          have SB : SAt ((w3.alloc (.cells #[.int .i64 y.reason, .int .i64 y.asked] 39)).drewN nq) s y := Blk.drewN SA.out nq
          have BB : Below w.heap.size w ((w3.alloc (.cells #[.int .i64 y.reason, .int .i64 y.asked] 39)).drewN nq) := below_drewN BA.out nq
          generalize (w3.alloc (.cells #[.int .i64 y.reason, .int .i64 y.asked] 39)).drewN nq = wv at LB SB BB ⊢
          have e2 : wv.cell? ⟨s, 2, none⟩ = some (.int .i64 y.B) := SB.cell 2
          have e3 : wv.cell? ⟨s, 3, none⟩ = some (.int .i64 y.S) := SB.cell 3
          have LBH := Lib.hid LB
          have SBH := Lib.hid SB
          have BBH := Lib.hid BB
          clear LB SB BB
          go_quiet ((first | (go_at_call 30; exact Calls.quiet_of_same ((bytes_any g y _ (by exact LBH.out)).mono fun _ _ ⟨h, k⟩ => ⟨h, k.symm⟩)) | (go_at_call 31; exact Calls.quiet_of_same ((peak_any g y _ (by exact LBH.out)).mono fun _ _ ⟨h, k⟩ => ⟨h, k.symm⟩)) | (go_at_call 32; exact Calls.quiet_of_same ((steps_any g y _ (by exact LBH.out)).mono fun _ _ ⟨h, k⟩ => ⟨h, k.symm⟩)) | (go_at_call 33; exact Calls.quiet_of_same ((broken_at (by exact LBH.out) EB.out).mono fun _ _ ⟨h, k⟩ => ⟨h, k.symm⟩))))
          go_wp2_with fail
          go_roundg (n - (q + 1))
          case measure => omega
          case rel => exact ⟨q + 1, y, by omega, by omega, by go_num, OKY.out, ASK.out, Blk.drewN LBH.out _, Blk.drewN SBH.out _, below_drewN BBH.out _⟩
      · have ASK := AX
        have OKY := OKX
        by_cases hz : x.reason = 0
        · have RZ := Lib.hid hz
          have AZ := Lib.hid (ASK.out hz)
          have ER := Lib.hid (show (if x.reason = 0 then 0 else x.reason) = 0 from if_pos hz)
          have EA := Lib.hid (show (if x.reason = 0 then 0 else x.asked) = 0 from if_pos hz)
          have EB := Lib.hid (show decide (x.reason ≠ 0) = false from had_no0 hz)
          clear hz
          go_wp2_with (first
            | (go_at_call 29; refine (first_at (x := x) (Blk.alloc H.out _) ER.out EA.out EB.out).mono ?_; rintro e w3 ⟨rfl, b3⟩; have L3 := Lib.hid (Blk.below (Blk.alloc H.out _) b3 (Blk.lt (Blk.alloc H.out _))); have S3 := Lib.hid (show SAt w3 s x from Blk.below (Blk.alloc FX.out _) b3 (Blk.lt (Blk.alloc FX.out _))); have B3 := Lib.hid (below_next (BX.out.alloc BX.out.size _) b3); have sz3 : s < w3.heap.size := Blk.lt S3.out; have LA := Lib.hid (Blk.alloc L3.out (.cells #[.int .i64 0, .int .i64 0] 39)); have SA := Lib.hid (Blk.alloc S3.out (.cells #[.int .i64 0, .int .i64 0] 39)); have BA := Lib.hid (B3.out.alloc B3.out.size (.cells #[.int .i64 0, .int .i64 0] 39)); have t2 : w3.cell? ⟨s, 2, none⟩ = some (.int .i64 x.B) := S3.out.cell 2; have t3 : w3.cell? ⟨s, 3, none⟩ = some (.int .i64 x.S) := S3.out.cell 3; have t4 : w3.cell? ⟨s, 4, none⟩ = some (.int .i64 x.bytes) := S3.out.cell 4; have t5 : w3.cell? ⟨s, 5, none⟩ = some (.int .i64 x.peak) := S3.out.cell 5; have t6 : w3.cell? ⟨s, 6, none⟩ = some (.int .i64 x.steps) := S3.out.cell 6; have t7 : w3.cell? ⟨s, 7, none⟩ = some (.int .i64 0) := (by have q : w3.cell? ⟨s, 7, none⟩ = some (.int .i64 x.reason) := S3.out.cell 7; rw [RZ.out] at q; exact q); have t8 : w3.cell? ⟨s, 8, none⟩ = some (.int .i64 0) := (by have q : w3.cell? ⟨s, 8, none⟩ = some (.int .i64 x.asked) := S3.out.cell 8; rw [AZ.out] at q; exact q); clear b3))
          have hpk : decide (x.B < x.peak) = false := decide_eq_false (by have := OKY.out.p1; omega)
          have hst : decide (x.S < x.steps) = false := decide_eq_false (by have := OKY.out.t1; omega)
          go_quiet ((first | (go_at_call 30; exact Calls.quiet_of_same ((bytes_any g x _ (by exact LA.out)).mono fun _ _ ⟨h, k⟩ => ⟨h, k.symm⟩)) | (go_at_call 31; exact Calls.quiet_of_same ((peak_any g x _ (by exact LA.out)).mono fun _ _ ⟨h, k⟩ => ⟨h, k.symm⟩)) | (go_at_call 32; exact Calls.quiet_of_same ((steps_any g x _ (by exact LA.out)).mono fun _ _ ⟨h, k⟩ => ⟨h, k.symm⟩)) | (go_at_call 33; exact Calls.quiet_of_same ((broken_at (by exact LA.out) EB.out).mono fun _ _ ⟨h, k⟩ => ⟨h, k.symm⟩))))
          go_wp2_with fail
          have LB : LedAt ((w3.alloc (.cells #[.int .i64 0, .int .i64 0] 39)).drewN nq) g x := Blk.drewN LA.out nq
          have SB : SAt ((w3.alloc (.cells #[.int .i64 0, .int .i64 0] 39)).drewN nq) s x := Blk.drewN SA.out nq
          have BB : Below w.heap.size w ((w3.alloc (.cells #[.int .i64 0, .int .i64 0] 39)).drewN nq) := below_drewN BA.out nq
          generalize (w3.alloc (.cells #[.int .i64 0, .int .i64 0] 39)).drewN nq = wv at LB SB BB ⊢
          have e2 : wv.cell? ⟨s, 2, none⟩ = some (.int .i64 x.B) := SB.cell 2
          have e3 : wv.cell? ⟨s, 3, none⟩ = some (.int .i64 x.S) := SB.cell 3
          have LBH := Lib.hid LB
          have SBH := Lib.hid SB
          have BBH := Lib.hid BB
          clear LB SB BB
          go_quiet ((first | (go_at_call 30; exact Calls.quiet_of_same ((bytes_any g x _ (by exact LBH.out)).mono fun _ _ ⟨h, k⟩ => ⟨h, k.symm⟩)) | (go_at_call 31; exact Calls.quiet_of_same ((peak_any g x _ (by exact LBH.out)).mono fun _ _ ⟨h, k⟩ => ⟨h, k.symm⟩)) | (go_at_call 32; exact Calls.quiet_of_same ((steps_any g x _ (by exact LBH.out)).mono fun _ _ ⟨h, k⟩ => ⟨h, k.symm⟩)) | (go_at_call 33; exact Calls.quiet_of_same ((broken_at (by exact LBH.out) EB.out).mono fun _ _ ⟨h, k⟩ => ⟨h, k.symm⟩))))
          go_wp2_with fail
          go_roundg (n - (q + 1))
          case measure => omega
          case rel => exact ⟨q + 1, x, by omega, by omega, by go_num, OKY.out, ASK.out, Blk.drewN LBH.out _, Blk.drewN SBH.out _, below_drewN BBH.out _⟩
        · have ER := Lib.hid (show (if x.reason = 0 then 0 else x.reason) = x.reason from if_neg hz)
          have EA := Lib.hid (show (if x.reason = 0 then 0 else x.asked) = x.asked from if_neg hz)
          have EB := Lib.hid (show decide (x.reason ≠ 0) = true from decide_eq_true hz)
          have hz1 : (x.reason == 0) = false := by simpa using hz
          have hz2 : (x.reason != 0) = true := by simpa using hz
          have hz3 : decide (x.reason = 0) = false := decide_eq_false hz
          go_wp2_with (first
            | (go_at_call 29; refine (first_at (x := x) (Blk.alloc H.out _) ER.out EA.out EB.out).mono ?_; rintro e w3 ⟨rfl, b3⟩; have L3 := Lib.hid (Blk.below (Blk.alloc H.out _) b3 (Blk.lt (Blk.alloc H.out _))); have S3 := Lib.hid (show SAt w3 s x from Blk.below (Blk.alloc FX.out _) b3 (Blk.lt (Blk.alloc FX.out _))); have B3 := Lib.hid (below_next (BX.out.alloc BX.out.size _) b3); have sz3 : s < w3.heap.size := Blk.lt S3.out; have LA := Lib.hid (Blk.alloc L3.out (.cells #[.int .i64 x.reason, .int .i64 x.asked] 39)); have SA := Lib.hid (Blk.alloc S3.out (.cells #[.int .i64 x.reason, .int .i64 x.asked] 39)); have BA := Lib.hid (B3.out.alloc B3.out.size (.cells #[.int .i64 x.reason, .int .i64 x.asked] 39)); have t2 : w3.cell? ⟨s, 2, none⟩ = some (.int .i64 x.B) := S3.out.cell 2; have t3 : w3.cell? ⟨s, 3, none⟩ = some (.int .i64 x.S) := S3.out.cell 3; have t4 : w3.cell? ⟨s, 4, none⟩ = some (.int .i64 x.bytes) := S3.out.cell 4; have t5 : w3.cell? ⟨s, 5, none⟩ = some (.int .i64 x.peak) := S3.out.cell 5; have t6 : w3.cell? ⟨s, 6, none⟩ = some (.int .i64 x.steps) := S3.out.cell 6; have t7 : w3.cell? ⟨s, 7, none⟩ = some (.int .i64 x.reason) := S3.out.cell 7; have t8 : w3.cell? ⟨s, 8, none⟩ = some (.int .i64 x.asked) := S3.out.cell 8; clear b3))
          have hpk : decide (x.B < x.peak) = false := decide_eq_false (by have := OKY.out.p1; omega)
          have hst : decide (x.S < x.steps) = false := decide_eq_false (by have := OKY.out.t1; omega)
          go_quiet ((first | (go_at_call 30; exact Calls.quiet_of_same ((bytes_any g x _ (by exact LA.out)).mono fun _ _ ⟨h, k⟩ => ⟨h, k.symm⟩)) | (go_at_call 31; exact Calls.quiet_of_same ((peak_any g x _ (by exact LA.out)).mono fun _ _ ⟨h, k⟩ => ⟨h, k.symm⟩)) | (go_at_call 32; exact Calls.quiet_of_same ((steps_any g x _ (by exact LA.out)).mono fun _ _ ⟨h, k⟩ => ⟨h, k.symm⟩)) | (go_at_call 33; exact Calls.quiet_of_same ((broken_at (by exact LA.out) EB.out).mono fun _ _ ⟨h, k⟩ => ⟨h, k.symm⟩))))
          go_wp2_with fail
          have LB : LedAt ((w3.alloc (.cells #[.int .i64 x.reason, .int .i64 x.asked] 39)).drewN nq) g x := Blk.drewN LA.out nq
          have SB : SAt ((w3.alloc (.cells #[.int .i64 x.reason, .int .i64 x.asked] 39)).drewN nq) s x := Blk.drewN SA.out nq
          have BB : Below w.heap.size w ((w3.alloc (.cells #[.int .i64 x.reason, .int .i64 x.asked] 39)).drewN nq) := below_drewN BA.out nq
          generalize (w3.alloc (.cells #[.int .i64 x.reason, .int .i64 x.asked] 39)).drewN nq = wv at LB SB BB ⊢
          have e2 : wv.cell? ⟨s, 2, none⟩ = some (.int .i64 x.B) := SB.cell 2
          have e3 : wv.cell? ⟨s, 3, none⟩ = some (.int .i64 x.S) := SB.cell 3
          have LBH := Lib.hid LB
          have SBH := Lib.hid SB
          have BBH := Lib.hid BB
          clear LB SB BB
          go_quiet ((first | (go_at_call 30; exact Calls.quiet_of_same ((bytes_any g x _ (by exact LBH.out)).mono fun _ _ ⟨h, k⟩ => ⟨h, k.symm⟩)) | (go_at_call 31; exact Calls.quiet_of_same ((peak_any g x _ (by exact LBH.out)).mono fun _ _ ⟨h, k⟩ => ⟨h, k.symm⟩)) | (go_at_call 32; exact Calls.quiet_of_same ((steps_any g x _ (by exact LBH.out)).mono fun _ _ ⟨h, k⟩ => ⟨h, k.symm⟩)) | (go_at_call 33; exact Calls.quiet_of_same ((broken_at (by exact LBH.out) EB.out).mono fun _ _ ⟨h, k⟩ => ⟨h, k.symm⟩))))
          go_wp2_with fail
          go_roundg (n - (q + 1))
          case measure => omega
          case rel => exact ⟨q + 1, x, by omega, by omega, by go_num, OKY.out, ASK.out, Blk.drewN LBH.out _, Blk.drewN SBH.out _, below_drewN BBH.out _⟩
    · clear h0 okx b0 F ax
      by_cases hqn : q < n
      · obtain rfl : q = 100 := by omega
        have hqI : ((100 : Nat) : Int) < (n : Int) := by omega
        go_wp2_with (first | (go_at_call 34; refine (awake_any _).mono ?_; rintro e w4 ⟨rfl, ba⟩))
        go_ret
        exact ⟨rfl, below_next BX.out ba⟩
      · have hqJ : ¬ (q : Int) < (n : Int) := by omega
        go_wp2_with (first | (go_at_call 34; refine (awake_any _).mono ?_; rintro e w4 ⟨rfl, ba⟩))
        go_ret
        exact ⟨rfl, below_next BX.out ba⟩

theorem ledgerPlays_said (w : World) (p0 p1 p2 p3 : Int) (hp : fits p0 ∧ fits p1 ∧ fits p2 ∧ fits p3) (A : Option Addr) (n cap : Nat) (l : List OpL) (hl : SliceOps w A n l) :
    Calls Try.prog 3 #[.agg #[.int .i64 p0, .int .i64 p1, .int .i64 p2, .int .i64 p3], .slice A n cap] w fun e w' => e = .returned (.bool true) ∧ Below w.heap.size w w' := plays_walk w p0 p1 p2 p3 hp A n cap l hl
end Go.Proofs.Ytbegielhfcebdaa
