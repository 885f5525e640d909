/- The law FaultLatches. -/
import Derived.Test.YtcngapfncnjlcaaDoorLatchTx
import Derived.Test.YtcngapfncnjlcaaDoorFltOpen
import Derived.Deep.RegionHeld3
namespace Go.Proofs.YtcngapfncnjlcaaDoor
open Go.RowKit
set_option linter.unusedVariables false
set_option linter.unusedSimpArgs false

set_option maxRecDepth 100000 in
set_option maxHeartbeats 4000000 in
theorem latches_long {w : World} {A : Option Addr} {n cap : Nat} (hn : 100 < n) : Calls Tryd.prog 3 #[.slice A n cap] w fun e w' => e = .returned (.bool true) ∧ Below w.heap.size w w' := by
  have hI : (100 : Int) < (n : Int) := by omega
  clear hn
  go_enter Tryd.func3, Tryd.ntmps3
  go_wp2_with (first
    | (go_at_call 4; refine (newLatch _).mono ?_; rintro e w1 ⟨rfl, l1, b1⟩)
    | (go_at_call 5; refine (awake03_any _).mono ?_; rintro e w2 ⟨rfl, b2⟩))
  go_ret
  exact ⟨rfl, below_next b1 b2⟩
/-- the box of a fault -/
def FX (w : World) (b : Nat) (k f a : Int) : Prop := Blk w b 27 #[.int .i64 k, .int .i64 f, .int .i64 a]
def stF (w : World) (b : Nat) (u v x : Value) : World := ((w.setCell ⟨b, 0, none⟩ u).setCell ⟨b, 1, none⟩ v).setCell ⟨b, 2, none⟩ x
theorem Blk.stF {w : World} {b g : Nat} {t : TypeId} {cs : Array Value} {u v x : Value} (h : Blk w g t cs) (hb : g ≠ b) : Blk (stF w b u v x) g t cs := Blk.far (Blk.far (Blk.far h (p := ⟨b, 0, none⟩) hb _) (p := ⟨b, 1, none⟩) hb _) (p := ⟨b, 2, none⟩) hb _
theorem below_stF {B : Nat} {a w : World} {b : Nat} {u v x : Value} (h : Below B a w) (hb : B ≤ b) : Below B a (stF w b u v x) := below_set (below_set (below_set h hb) hb) hb
/-- what holds at each fault -/
structure LaI (w0 w : World) (x q : Nat) (had : Bool) (k f a : Int) : Prop where
  L : LT w x (if had then 1 else 0) k f a
  Q : FX w q k f a
  z : had = false → k = 0 ∧ f = 0 ∧ a = 0
  B : Below w0.heap.size w0 w
  nx : w0.heap.size ≤ x
  nq : w0.heap.size ≤ q
theorem LaI.below {w0 w w' : World} {x q : Nat} {had : Bool} {k f a : Int} (P : LaI w0 w x q had k f a) (b : Below w.heap.size w w') : LaI w0 w' x q had k f a := ⟨Blk.below P.L b (Blk.lt P.L), Blk.below P.Q b (Blk.lt P.Q), P.z, below_next P.B b, P.nx, P.nq⟩
theorem LaI.alloc {w0 w : World} {x q : Nat} {had : Bool} {k f a : Int} (P : LaI w0 w x q had k f a) (o : Obj) : LaI w0 (w.alloc o) x q had k f a := P.below ((Below.refl _ _).alloc (Nat.le_refl _) _)
theorem LaI.drew {w0 w : World} {x q : Nat} {had : Bool} {k f a : Int} (P : LaI w0 w x q had k f a) : LaI w0 w.drew x q had k f a := ⟨P.L, P.Q, P.z, P.B.drew, P.nx, P.nq⟩
set_option maxRecDepth 100000 in
set_option maxHeartbeats 4000000 in
theorem latches_short {w : World} {A : Option Addr} {n cap : Nat} {l : List FltL} (hl : SliceFaults w A n l) (hn : n ≤ 100) : Calls Tryd.prog 3 #[.slice A n cap] w fun e w' => e = .returned (.bool true) ∧ Below w.heap.size w w' := by
  have hI : ¬ (100 : Int) < (n : Int) := by omega
  have hnI : (n : Int) ≤ 100 := by omega
  have HS := Lib.hid hl
  clear hn hl
  go_enter Tryd.func3, Tryd.ntmps3
  go_wp2_with (go_at_call 4; refine (newLatch _).mono ?_; rintro e w1 ⟨rfl, l1, b1⟩)
  have I1 : LaI w (w1.alloc (.cells #[.int .i64 0, .int .i64 0, .int .i64 0] 27)) w.heap.size w1.heap.size false 0 0 0 := ⟨Blk.alloc l1 _, Blk.new _ _ _, fun _ => ⟨rfl, rfl, rfl⟩, b1.alloc b1.size _, Nat.le_refl _, b1.size⟩
  generalize w1.alloc (.cells #[.int .i64 0, .int .i64 0, .int .i64 0] 27) = w2 at I1 ⊢
  generalize w1.heap.size = q at I1 ⊢
  have HI1 := Lib.hid I1
  clear I1 l1 b1
  go_loopg [5, 25] n (fun gh v5 v25 wr => ∃ (i gk : Nat) (had : Bool) (k f a : Int), gk = gh ∧ i + gk = n ∧ v5 = .bool had ∧ v25 = .int .i64 (i : Int) ∧ Hid (LaI w wr w.heap.size q had k f a))
  case atStart => exact ⟨0, n, false, 0, 0, 0, rfl, by omega, rfl, rfl, HI1⟩
  case round =>
    obtain ⟨i, gk, had, k, f, a, rfl, hi, rfl, rfl, hP⟩ := hrel
    clear HI1
    by_cases hin : i < n
    · have hinI : (i : Int) < (n : Int) := by omega
      rcases HS.out with h0 | ⟨b, off, rfl, hm, hll, hc⟩
      · omega
      obtain ⟨_, c0, c1, c2⟩ := hc i hin
      generalize (l.getD i noFlt).k = ko at c0
      generalize (l.getD i noFlt).n = fo at c1
      generalize (l.getD i noFlt).m = ao at c2
      have hbl := World.block_lt_of_cell? w _ c0
      have x0 := (hP.out.B.cell (p := ⟨b, off + i * 3, none⟩) hbl).trans c0
      have x1 := (hP.out.B.cell (p := ⟨b, off + i * 3 + 1, none⟩) hbl).trans c1
      have x2 := (hP.out.B.cell (p := ⟨b, off + i * 3 + 2, none⟩) hbl).trans c2
      have xl : b < wr.heap.size := Nat.lt_of_lt_of_le hbl hP.out.B.size
      have hil : (i : Int) < 100 := by omega
      have HGI := Lib.hid hi
      clear hc c0 c1 c2 hll hm HS hi
      by_cases hko : ko = 0
      · subst hko
        cases had with
        | false =>
          obtain ⟨rfl, rfl, rfl⟩ := hP.out.z rfl
          have P1 : LaI w (wr.alloc (.cells #[.int .i64 0, .int .i64 fo, .int .i64 ao] 27)) w.heap.size q false 0 0 0 := hP.out.alloc _
          have F1 : FX (wr.alloc (.cells #[.int .i64 0, .int .i64 fo, .int .i64 ao] 27)) wr.heap.size 0 fo ao := Blk.new _ _ _
          go_upto_region 12 with fail
          generalize wr.alloc (.cells #[.int .i64 0, .int .i64 fo, .int .i64 ao] 27) = w3 at P1 F1 ⊢
          generalize wr.heap.size = fb at F1 ⊢
          clear x0 x1 x2 xl
          have f0 := Blk.cell F1 0
          have f1 := Blk.cell F1 1
          have f2 := Blk.cell F1 2
          have q0 := Blk.cell P1.Q 0
          have q1 := Blk.cell P1.Q 1
          have q2 := Blk.cell P1.Q 2
          have fl := Blk.lt F1
          have ql := Blk.lt P1.Q
          go_region_with (first
            | (go_at_call 6; refine latchNote_no.mono ?_; rintro e w4 ⟨rfl, b4⟩; have P4 := P1.drew.below b4; clear q0 q1 q2 f0 f1 f2 fl ql; have q0 := Blk.cell P4.Q 0; have q1 := Blk.cell P4.Q 1; have q2 := Blk.cell P4.Q 2; have ql := Blk.lt P4.Q)
            | (go_at_call 7; refine (latchIs (b := false) P4.L rfl).mono ?_; rintro e w5 ⟨rfl, rfl⟩)
            | (go_at_call 8; refine (latchGet_no P4.L).mono ?_; rintro e w6 ⟨rfl, b6⟩; have P6 := P4.below b6; clear q0 q1 q2 ql; have q0 := Blk.cell P6.Q 0; have q1 := Blk.cell P6.Q 1; have q2 := Blk.cell P6.Q 2; have ql := Blk.lt P6.Q))
          all_goals go_wp2_with fail
          all_goals
            go_roundg (n - (i + 1))
            case measure => have := HGI.out; omega
            case rel => exact ⟨i + 1, n - (i + 1), false, 0, 0, 0, rfl, by omega, rfl, by go_num, Lib.hid P6⟩
        | true =>
          have P1 : LaI w (wr.alloc (.cells #[.int .i64 0, .int .i64 fo, .int .i64 ao] 27)) w.heap.size q true k f a := hP.out.alloc _
          have F1 : FX (wr.alloc (.cells #[.int .i64 0, .int .i64 fo, .int .i64 ao] 27)) wr.heap.size 0 fo ao := Blk.new _ _ _
          go_upto_region 12 with fail
          generalize wr.alloc (.cells #[.int .i64 0, .int .i64 fo, .int .i64 ao] 27) = w3 at P1 F1 ⊢
          generalize wr.heap.size = fb at F1 ⊢
          clear x0 x1 x2 xl
          have f0 := Blk.cell F1 0
          have f1 := Blk.cell F1 1
          have f2 := Blk.cell F1 2
          have q0 := Blk.cell P1.Q 0
          have q1 := Blk.cell P1.Q 1
          have q2 := Blk.cell P1.Q 2
          have fl := Blk.lt F1
          have ql := Blk.lt P1.Q
          go_region_with (first
            | (go_at_call 6; refine latchNote_no.mono ?_; rintro e w4 ⟨rfl, b4⟩; have P4 := P1.drew.below b4; clear q0 q1 q2 f0 f1 f2 fl ql; have q0 := Blk.cell P4.Q 0; have q1 := Blk.cell P4.Q 1; have q2 := Blk.cell P4.Q 2; have ql := Blk.lt P4.Q)
            | (go_at_call 7; refine (latchIs (b := true) P4.L rfl).mono ?_; rintro e w5 ⟨rfl, rfl⟩)
            | (go_at_call 8; refine (latchGet_yes P4.L).mono ?_; rintro e w6 ⟨rfl, b6⟩; have P6 := P4.below b6; clear q0 q1 q2 ql; have q0 := Blk.cell P6.Q 0; have q1 := Blk.cell P6.Q 1; have q2 := Blk.cell P6.Q 2; have ql := Blk.lt P6.Q))
          all_goals go_wp2_with fail
          all_goals
            go_roundg (n - (i + 1))
            case measure => have := HGI.out; omega
            case rel => exact ⟨i + 1, n - (i + 1), true, k, f, a, rfl, by omega, rfl, by go_num, Lib.hid P6⟩
      · have hkI : ¬ ko = 0 := hko
        cases had with
        | true =>
          have P1 : LaI w (wr.alloc (.cells #[.int .i64 ko, .int .i64 fo, .int .i64 ao] 27)) w.heap.size q true k f a := hP.out.alloc _
          have F1 : FX (wr.alloc (.cells #[.int .i64 ko, .int .i64 fo, .int .i64 ao] 27)) wr.heap.size ko fo ao := Blk.new _ _ _
          go_upto_region 12 with fail
          generalize wr.alloc (.cells #[.int .i64 ko, .int .i64 fo, .int .i64 ao] 27) = w3 at P1 F1 ⊢
          generalize wr.heap.size = fb at F1 ⊢
          clear x0 x1 x2 xl
          have f0 := Blk.cell F1 0
          have f1 := Blk.cell F1 1
          have f2 := Blk.cell F1 2
          have q0 := Blk.cell P1.Q 0
          have q1 := Blk.cell P1.Q 1
          have q2 := Blk.cell P1.Q 2
          have fl := Blk.lt F1
          have ql := Blk.lt P1.Q
          go_region_with (first
            | (go_at_call 6; refine (latchNote_done (by exact P1.drew.L) hko).mono ?_; rintro e w4 ⟨rfl, b4⟩; have P4 := P1.drew.below b4; clear q0 q1 q2 f0 f1 f2 fl ql; have q0 := Blk.cell P4.Q 0; have q1 := Blk.cell P4.Q 1; have q2 := Blk.cell P4.Q 2; have ql := Blk.lt P4.Q)
            | (go_at_call 7; refine (latchIs (b := true) P4.L rfl).mono ?_; rintro e w5 ⟨rfl, rfl⟩)
            | (go_at_call 8; refine (latchGet_yes P4.L).mono ?_; rintro e w6 ⟨rfl, b6⟩; have P6 := P4.below b6; clear q0 q1 q2 ql; have q0 := Blk.cell P6.Q 0; have q1 := Blk.cell P6.Q 1; have q2 := Blk.cell P6.Q 2; have ql := Blk.lt P6.Q))
          all_goals go_wp2_with fail
          all_goals
            go_roundg (n - (i + 1))
            case measure => have := HGI.out; omega
            case rel => exact ⟨i + 1, n - (i + 1), true, k, f, a, rfl, by omega, rfl, by go_num, Lib.hid P6⟩
        | false =>
          obtain ⟨rfl, rfl, rfl⟩ := hP.out.z rfl
          have P1 : LaI w (wr.alloc (.cells #[.int .i64 ko, .int .i64 fo, .int .i64 ao] 27)) w.heap.size q false 0 0 0 := hP.out.alloc _
          have F1 : FX (wr.alloc (.cells #[.int .i64 ko, .int .i64 fo, .int .i64 ao] 27)) wr.heap.size ko fo ao := Blk.new _ _ _
          have a0 := Blk.cell P1.Q 0
          have a1 := Blk.cell P1.Q 1
          have a2 := Blk.cell P1.Q 2
          have z0 := Blk.frozen P1.Q 0
          have z1 := Blk.frozen P1.Q 1
          have z2 := Blk.frozen P1.Q 2
          have al := Blk.lt P1.Q
          have n7 : w.heap.size ≠ q := Blk.ne_ P1.L P1.Q (by decide)
          have n8 : wr.heap.size ≠ q := by have := Blk.lt hP.out.Q; omega
          have LL : LT (stF (wr.alloc (.cells #[.int .i64 ko, .int .i64 fo, .int .i64 ao] 27)) q (.int .i64 ko) (.int .i64 fo) (.int .i64 ao)) w.heap.size 0 0 0 0 := Blk.stF P1.L n7
          have QQ : FX (stF (wr.alloc (.cells #[.int .i64 ko, .int .i64 fo, .int .i64 ao] 27)) q (.int .i64 ko) (.int .i64 fo) (.int .i64 ao)) q ko fo ao := (Blk.set_ (Blk.set_ (Blk.set_ P1.Q 0 _) 1 _) 2 _).eq_ rfl
          have FF : FX (stF (wr.alloc (.cells #[.int .i64 ko, .int .i64 fo, .int .i64 ao] 27)) q (.int .i64 ko) (.int .i64 fo) (.int .i64 ao)) wr.heap.size ko fo ao := Blk.stF F1 n8
          have BB : Below w.heap.size w (stF (wr.alloc (.cells #[.int .i64 ko, .int .i64 fo, .int .i64 ao] 27)) q (.int .i64 ko) (.int .i64 fo) (.int .i64 ao)) := below_stF P1.B P1.nq
          have HX : Hid (w.heap.size ≤ q) := Lib.hid P1.nq
          go_upto_region 12 with fail
          have hkb : (ko != 0) = true := by simpa using hko
          simp only [hkb]
          generalize hw3 : ((((wr.alloc (.cells #[.int .i64 ko, .int .i64 fo, .int .i64 ao] 27)).setCell ⟨q, 0, none⟩ (.int .i64 ko)).setCell ⟨q, 1, none⟩ (.int .i64 fo)).setCell ⟨q, 2, none⟩ (.int .i64 ao)) = w3
          have hw3' : stF (wr.alloc (.cells #[.int .i64 ko, .int .i64 fo, .int .i64 ao] 27)) q (.int .i64 ko) (.int .i64 fo) (.int .i64 ao) = w3 := hw3
          rw [hw3'] at LL QQ FF BB
          generalize wr.heap.size = fb at FF n8 ⊢
          clear x0 x1 x2 xl a0 a1 a2 z0 z1 z2 al hw3 hw3' P1 F1 hP
          have f0 := Blk.cell FF 0
          have f1 := Blk.cell FF 1
          have f2 := Blk.cell FF 2
          have q0 := Blk.cell QQ 0
          have q1 := Blk.cell QQ 1
          have q2 := Blk.cell QQ 2
          have fl := Blk.lt FF
          have ql := Blk.lt QQ
          have LD : LT w3.drew w.heap.size 0 0 0 0 := Blk.drew LL
          have QD : FX w3.drew q ko fo ao := Blk.drew QQ
          have BD : Below w.heap.size w w3.drew := BB.drew
          go_region_with (first
            | (go_at_call 6; go_loud (refine (latchNote_first LD hko).mono ?_; rintro e w4 ⟨rfl, l4, t4⟩); have P4 : LaI w w4 w.heap.size q true ko fo ao := ⟨l4, Blk.turn QD t4 (by simpa using n7.symm), fun h => (by cases h), Turn.belowNext BD t4 (by simp) BD.size, Nat.le_refl _, HX.out⟩; clear q0 q1 q2 f0 f1 f2 fl ql; have q0 := Blk.cell P4.Q 0; have q1 := Blk.cell P4.Q 1; have q2 := Blk.cell P4.Q 2; have ql := Blk.lt P4.Q)
            | (go_at_call 7; refine (latchIs (b := true) P4.L rfl).mono ?_; rintro e w5 ⟨rfl, rfl⟩)
            | (go_at_call 8; refine (latchGet_yes P4.L).mono ?_; rintro e w6 ⟨rfl, b6⟩; have P6 := P4.below b6; clear q0 q1 q2 ql; have q0 := Blk.cell P6.Q 0; have q1 := Blk.cell P6.Q 1; have q2 := Blk.cell P6.Q 2; have ql := Blk.lt P6.Q))
          all_goals go_wp2_with fail
          all_goals
            go_roundg (n - (i + 1))
            case measure => have := HGI.out; omega
            case rel => exact ⟨i + 1, n - (i + 1), true, ko, fo, ao, rfl, by omega, rfl, by go_num, Lib.hid P6⟩
    · obtain rfl : i = n := by omega
      have hinI : ¬ (i : Int) < (i : Int) := by omega
      clear hi
      go_wp2_with (go_at_call 5; refine (awake03_any _).mono ?_; rintro e w2 ⟨rfl, b2⟩)
      go_ret
      exact ⟨rfl, below_next hP.out.B b2⟩
theorem faultLatches_said (w : World) (A : Option Addr) (n cap : Nat) (l : List FltL) (hl : SliceFaults w A n l) : Calls Tryd.prog 3 #[.slice A n cap] w fun e w' => e = .returned (.bool true) ∧ Below w.heap.size w w' := by
  by_cases h : n ≤ 100
  · exact latches_short hl h
  · exact latches_long (by omega)
end Go.Proofs.YtcngapfncnjlcaaDoor
