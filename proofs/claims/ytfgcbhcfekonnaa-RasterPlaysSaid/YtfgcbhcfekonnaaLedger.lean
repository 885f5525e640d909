/- The ledger's methods by their contracts: the block of a ledger is its counts. -/
import Derived.Test.YtfgcbhcfekonnaaOnce
import Derived.Test.YtfgcbhcfekonnaaBlk
import Derived.Test.YtfgcbhcfekonnaaLedLaw
import Derived.StillTailTactics
namespace Go.Proofs.Ytfgcbhcfekonnaa
open Go.RowKit
set_option linter.unusedVariables false

def Led.flag (x : Led) : Int := if x.reason = 0 then 0 else 1
def Led.cells (x : Led) : Array Value := #[.int .i64 x.W, .int .i64 x.H, .int .i64 x.B, .int .i64 x.S, .int .i64 x.bytes, .int .i64 x.peak, .int .i64 x.steps, .int .u32 x.flag, .int .u32 x.flag, .int .i32 0, .int .u32 0, .int .i64 x.reason, .int .i64 x.asked]
def LedAt (w : World) (g : Nat) (x : Led) : Prop := Blk w g 86 x.cells

section
variable {w : World} {g : Nat} {x : Led}
theorem LedAt.W (h : LedAt w g x) : w.cell? ⟨g, 0, none⟩ = some (.int .i64 x.W) := Blk.cell h 0
theorem LedAt.H (h : LedAt w g x) : w.cell? ⟨g, 1, none⟩ = some (.int .i64 x.H) := Blk.cell h 1
theorem LedAt.B (h : LedAt w g x) : w.cell? ⟨g, 2, none⟩ = some (.int .i64 x.B) := Blk.cell h 2
theorem LedAt.S (h : LedAt w g x) : w.cell? ⟨g, 3, none⟩ = some (.int .i64 x.S) := Blk.cell h 3
theorem LedAt.bytes (h : LedAt w g x) : w.cell? ⟨g, 4, none⟩ = some (.int .i64 x.bytes) := Blk.cell h 4
theorem LedAt.peak (h : LedAt w g x) : w.cell? ⟨g, 5, none⟩ = some (.int .i64 x.peak) := Blk.cell h 5
theorem LedAt.steps (h : LedAt w g x) : w.cell? ⟨g, 6, none⟩ = some (.int .i64 x.steps) := Blk.cell h 6
theorem LedAt.broken (h : LedAt w g x) : w.cell? ⟨g, 7, none⟩ = some (.int .u32 x.flag) := Blk.cell h 7
theorem LedAt.done (h : LedAt w g x) : w.cell? ⟨g, 8, none⟩ = some (.int .u32 x.flag) := Blk.cell h 8
theorem LedAt.mu (h : LedAt w g x) : w.cell? ⟨g, 9, none⟩ = some (.int .i32 0) := Blk.cell h 9
theorem LedAt.reason (h : LedAt w g x) : w.cell? ⟨g, 11, none⟩ = some (.int .i64 x.reason) := Blk.cell h 11
theorem LedAt.asked (h : LedAt w g x) : w.cell? ⟨g, 12, none⟩ = some (.int .i64 x.asked) := Blk.cell h 12
theorem LedAt.frozen (h : LedAt w g x) (i : Nat) : w.frozen? ⟨g, i, none⟩ = false := Blk.frozen h i
end

theorem refuse1_any (g p0 p1 p2 : Nat) (r a : Int) (cs : Array Value) (w : World) (h0 : w.cell? ⟨p0, 0, none⟩ = some (.int .i64 r)) (h1 : w.cell? ⟨p1, 0, none⟩ = some (.int .i64 a)) (h2 : w.cell? ⟨p2, 0, none⟩ = some (.pointer (some ⟨g, 0, none⟩)))
    (hB : Blk w g 86 cs) (hs : cs.size = 13) (n2 : p2 ≠ g) :
    Calls Try.prog 99 #[.pointer (some ⟨p0, 0, none⟩), .pointer (some ⟨p1, 0, none⟩), .pointer (some ⟨p2, 0, none⟩)] w fun e w' => e = .returned (.tuple #[]) ∧
      Blk w' g 86 (((cs.setIfInBounds 11 (.int .i64 r)).setIfInBounds 12 (.int .i64 a)).setIfInBounds 7 (.int .u32 1)) ∧ w.grownBy w' (some g) := by
  obtain ⟨y11, c11⟩ : ∃ y, w.cell? ⟨g, 11, none⟩ = some y := ⟨_, (hB.cell 11).trans (Array.getElem?_eq_getElem (by omega))⟩
  obtain ⟨y12, c12⟩ : ∃ y, w.cell? ⟨g, 12, none⟩ = some y := ⟨_, (hB.cell 12).trans (Array.getElem?_eq_getElem (by omega))⟩
  obtain ⟨y7, c7⟩ : ∃ y, w.cell? ⟨g, 7, none⟩ = some y := ⟨_, (hB.cell 7).trans (Array.getElem?_eq_getElem (by omega))⟩
  have f11 := hB.frozen 11
  have f12 := hB.frozen 12
  have f7 := hB.frozen 7
  have HB := Lib.hid hB
  clear hB hs
  go_enter Try.func99, Try.ntmps99
  go_wp2_with (go_at_call 100; refine (storeB _ y7 _ (by go_simp) (by go_simp)).mono ?_; rintro e w' ⟨rfl, rfl⟩)
  go_end0
  exact ⟨rfl, (((HB.out.set_ 11 _).set_ 12 _).drew).set_ 7 _, only_set (only_drew (only_set (only_set (only_refl _ _) 11 _) 12 _)) 7 _⟩

/-- the world in which refuse calls Do -/
def rW (w : World) (g : Nat) (r a : Int) : World := ((w.alloc (.cells #[.pointer (some ⟨g, 0, none⟩)] 23)).alloc (.cells #[.int .i64 r] 3)).alloc (.cells #[.int .i64 a] 3)

theorem refuse_any (g : Nat) (x : Led) (r a : Int) (w : World) (h : LedAt w g x) (hx : x.reason = 0) (hr : r ≠ 0) :
    Calls Try.prog 73 #[.pointer (some ⟨g, 0, none⟩), .int .i64 r, .int .i64 a] w fun e w' => e = .returned (.bool false) ∧ LedAt w' g (x.refused r a) ∧ w.grownBy w' (some g) := by
  have hg : g < w.heap.size := Blk.lt h
  have hmf : ∀ (fn : Fn) (first cap : Array Value) (w : World), (Instr.makeFunc fn first cap).run Try.prog w = .ok (.func fn first cap) w := fun _ _ _ _ => rfl
  have HX := Lib.hid hx
  have HR := Lib.hid hr
  have HL := Lib.hid h
  clear hx hr h
  go_enter Try.func73, Try.ntmps73
  go_wp2_with fail
  show Calls _ _ _ (rW w g r a) _
  have hb3 : Blk (rW w g r a) g 86 x.cells := ((Blk.alloc HL.out _).alloc _).alloc _
  have ho3 : w.grownBy (rW w g r a) (some g) := only_alloc (only_alloc (only_alloc (only_refl _ _) _) _) _
  have hl3 : LedAt (rW w g r a) g x := hb3
  have hf : x.flag = 0 := by unfold Led.flag; rw [if_pos HX.out]
  refine (once_first g 8 99 _ _ (fun w' => Blk w' g 86 ((((x.cells.setIfInBounds 9 (.int .i32 1)).setIfInBounds 11 (.int .i64 r)).setIfInBounds 12 (.int .i64 a)).setIfInBounds 7 (.int .u32 1)) ∧ (rW w g r a).grownBy w' (some g)) (fun w => by kernel_rfl) ?_ hl3.mu (hl3.frozen 9) ?_ ?_).mono ?_
  · have := hl3.done
    rw [hf] at this
    exact this
  · refine (refuse1_any g _ _ _ r a (x.cells.setIfInBounds 9 (.int .i32 1)) _ ?_ ?_ ?_ (hb3.set_ 9 _) rfl (by omega)).mono ?_
    · exact (World.cell?_setCell_other _ _ _ _ (addr_ne (by omega))).trans ((World.cell?_alloc_lt _ _ _ (by first | (simp; done) | (simp; omega))).trans (cell_new _ _ _ 0 _ (by simp)))
    · exact (World.cell?_setCell_other _ _ _ _ (addr_ne (by omega))).trans (cell_new _ _ _ 0 _ (by simp))
    · exact (World.cell?_setCell_other _ _ _ _ (addr_ne (by omega))).trans ((World.cell?_alloc_lt _ _ _ (by first | (simp; done) | (simp; omega))).trans ((World.cell?_alloc_lt _ _ _ (by first | (simp; done) | (simp; omega))).trans (cell_new _ _ _ 0 _ (by simp))))
    · rintro e w' ⟨rfl, h1, h2⟩
      exact ⟨rfl, h1, only_trans (only_set (only_refl _ _) 9 _) h2⟩
  · rintro w' ⟨h1, h2⟩
    exact ⟨⟨_, h1.cell 8⟩, h1.frozen 8, h1.cell 9, h1.frozen 9⟩
  rintro e w' ⟨rfl, w2, ⟨h1, h2⟩, rfl⟩
  have hfin : LedAt (((w2.drew.setCell ⟨g, 8, none⟩ (.int .u32 1)).setCell ⟨g, 8 + 1, none⟩ (.int .i32 0))) g (x.refused r a) := by
    refine ((h1.drew.set_ 8 _).set_ 9 _).eq_ ?_
    have hr' : (x.refused r a).flag = 1 := if_neg HR.out
    unfold Led.cells
    rw [hr']
    simp [Led.refused]
  have honl := only_trans ho3 (only_trans h2 (only_set (only_set (only_drew (only_refl w2 (some g))) 8 (.int .u32 1)) (8 + 1) (.int .i32 0)))
  have HFIN := Lib.hid hfin
  clear hfin h1 hb3 hl3
  go_wp2_with fail
  go_ret
  exact ⟨rfl, HFIN.out, honl⟩

theorem Led.flag_b (x : Led) : (x.flag != 0) = decide (x.reason ≠ 0) := by
  unfold Led.flag
  split <;> rename_i h <;> simp [h]

theorem add_broken (g : Nat) (x : Led) (p : Value) (n m r : Int) (w : World) (h : LedAt w g x) (hx : x.reason ≠ 0) :
    Calls Try.prog 103 #[.pointer (some ⟨g, 0, none⟩), p, .int .i64 n, .int .i64 m, .int .i64 r] w fun e w' => e = .returned (.bool false) ∧ w = w' := by
  have hb := h.broken
  have hf : (x.flag != 0) = true := by rw [Led.flag_b]; simpa using hx
  have hnot := sNot
  clear h hx
  go_enter Try.func103, Try.ntmps103
  go_wp2_with fail
  go_loopg [11] 0 (fun g u wr => w = wr)
  case atStart => rfl
  case round =>
    subst hrel
    go_wp2_with (go_at_call 71; refine (loadB _ x.flag true _ hf hb).mono ?_; rintro e w' ⟨rfl, rfl⟩)
    go_ret
    exact ⟨rfl, rfl⟩

theorem add_no (g o : Nat) (x : Led) (was n m r : Int) (w : World) (h : LedAt w g x) (hx : x.reason = 0) (hr : r ≠ 0) (hc : w.cell? ⟨g, o, none⟩ = some (.int .i64 was)) (h0 : 0 ≤ was) (h1 : was ≤ m) (hm : m ≤ 9223372036854775807) (hn : n < 0 ∨ m - was < n) :
    Calls Try.prog 103 #[.pointer (some ⟨g, 0, none⟩), .pointer (some ⟨g, o, none⟩), .int .i64 n, .int .i64 m, .int .i64 r] w fun e w' => e = .returned (.bool false) ∧ LedAt w' g (x.refused r n) ∧ w.grownBy w' (some g) := by
  have hb := h.broken
  have hf : (x.flag != 0) = false := by rw [Led.flag_b]; simpa using hx
  have hnot := sNot
  have HR := Lib.hid (refuse_any g x r n w h hx hr)
  clear h hx hr
  by_cases hneg : n < 0
  · clear hn
    go_enter Try.func103, Try.ntmps103
    go_wp2_with fail
    go_loopg [11] 0 (fun g u wr => w = wr)
    case atStart => rfl
    case round =>
      subst hrel
      go_wp2_with (first | (go_at_call 71; refine (loadB _ x.flag false _ hf hb).mono ?_; rintro e w' ⟨rfl, rfl⟩) | (go_at_call 41; refine (load64 _ _ _ hc).mono ?_; rintro e w' ⟨rfl, rfl⟩) | (go_at_call 73; refine HR.out.mono ?_; rintro e w' ⟨rfl, hq1, hq2⟩))
      go_ret
      exact ⟨rfl, hq1, hq2⟩
  · have hbig : m - was < n := by omega
    clear hn
    go_enter Try.func103, Try.ntmps103
    go_wp2_with fail
    go_loopg [11] 0 (fun g u wr => w = wr)
    case atStart => rfl
    case round =>
      subst hrel
      go_wp2_with (first | (go_at_call 71; refine (loadB _ x.flag false _ hf hb).mono ?_; rintro e w' ⟨rfl, rfl⟩) | (go_at_call 41; refine (load64 _ _ _ hc).mono ?_; rintro e w' ⟨rfl, rfl⟩) | (go_at_call 73; refine HR.out.mono ?_; rintro e w' ⟨rfl, hq1, hq2⟩))
      go_ret
      exact ⟨rfl, hq1, hq2⟩

theorem add_yes (g o : Nat) (x : Led) (was n m r : Int) (w : World) (h : LedAt w g x) (hx : x.reason = 0) (hc : w.cell? ⟨g, o, none⟩ = some (.int .i64 was)) (h0 : 0 ≤ was) (h1 : was ≤ m) (hm : m ≤ 9223372036854775807) (hn0 : 0 ≤ n) (hn : n ≤ m - was) :
    Calls Try.prog 103 #[.pointer (some ⟨g, 0, none⟩), .pointer (some ⟨g, o, none⟩), .int .i64 n, .int .i64 m, .int .i64 r] w fun e w' => e = .returned (.bool true) ∧ w.setCell ⟨g, o, none⟩ (.int .i64 (was + n)) = w' := by
  have hb := h.broken
  have hf : (x.flag != 0) = false := by rw [Led.flag_b]; simpa using hx
  have hz := h.frozen o
  have hnot := sNot
  clear h hx
  go_enter Try.func103, Try.ntmps103
  go_wp2_with fail
  go_loopg [11] 0 (fun g u wr => w = wr)
  case atStart => rfl
  case round =>
    subst hrel
    go_wp2_with (first | (go_at_call 71; refine (loadB _ x.flag false _ hf hb).mono ?_; rintro e w' ⟨rfl, rfl⟩) | (go_at_call 41; refine (load64 _ _ _ hc).mono ?_; rintro e w' ⟨rfl, rfl⟩) | (go_at_call 104; refine (cas64 _ _ _ _ hc hz).mono ?_; rintro e w' ⟨rfl, rfl⟩))
    go_ret
    exact ⟨rfl, rfl⟩

theorem give_any (g : Nat) (x : Led) (n : Int) (w : World) (h : LedAt w g x) (ok : x.Ok) :
    Calls Try.prog 108 #[.pointer (some ⟨g, 0, none⟩), .int .i64 n] w fun e w' => e = .returned (.bool (x.give n).2) ∧ LedAt w' g (x.give n).1 ∧ w.grownBy w' (some g) := by
  have hc := h.bytes
  have hz := h.frozen 4
  have y0 := ok.y0
  have y1 := ok.y1
  have b1 := ok.b1
  have HL := Lib.hid h
  clear h ok
  by_cases hn : n < 0 ∨ x.bytes < n
  · have e := Lib.hid (show x.give n = (x, false) from if_pos hn)
    by_cases hneg : n < 0
    all_goals
      go_enter Try.func108, Try.ntmps108
      go_wp2_with fail
      go_loopg [5] 0 (fun g u wr => w = wr)
      case atStart => rfl
      case round =>
        subst hrel
        have hn' : ¬ n < 0 → x.bytes < n := by omega
        go_wp2_with (first | (go_at_call 41; refine (load64 _ _ _ hc).mono ?_; rintro e w' ⟨rfl, rfl⟩))
        all_goals go_ret
        all_goals exact ⟨by rw [e.out]; rfl, by rw [e.out]; exact HL.out, only_refl _ _⟩
  · have e := Lib.hid (show x.give n = ({ x with bytes := x.bytes - n }, true) from if_neg hn)
    have n0 : ¬ n < 0 := by omega
    have n1 : ¬ x.bytes < n := by omega
    go_enter Try.func108, Try.ntmps108
    go_wp2_with fail
    go_loopg [5] 0 (fun g u wr => w = wr)
    case atStart => rfl
    case round =>
      subst hrel
      go_wp2_with (first | (go_at_call 41; refine (load64 _ _ _ hc).mono ?_; rintro e w' ⟨rfl, rfl⟩) | (go_at_call 104; refine (cas64 _ _ _ _ hc hz).mono ?_; rintro e w' ⟨rfl, rfl⟩))
      go_ret
      exact ⟨by rw [e.out]; rfl, by rw [e.out]; exact (Blk.set_ HL.out 4 _).eq_ (by simp [Led.cells, Led.flag]), only_set (only_refl _ _) 4 _⟩

theorem bytes_any (g : Nat) (x : Led) (w : World) (h : LedAt w g x) :
    Calls Try.prog 12 #[.pointer (some ⟨g, 0, none⟩)] w fun e w' => e = .returned (.int .i64 x.bytes) ∧ w = w' := by
  have hc := h.bytes
  clear h
  go_enter Try.func12, Try.ntmps12
  go_wp2_with (first | (go_at_call 41; refine (load64 _ _ _ hc).mono ?_; rintro e w' ⟨rfl, rfl⟩))
  go_ret
  exact ⟨rfl, rfl⟩
theorem peak_any (g : Nat) (x : Led) (w : World) (h : LedAt w g x) :
    Calls Try.prog 31 #[.pointer (some ⟨g, 0, none⟩)] w fun e w' => e = .returned (.int .i64 x.peak) ∧ w = w' := by
  have hc := h.peak
  clear h
  go_enter Try.func31, Try.ntmps31
  go_wp2_with (first | (go_at_call 41; refine (load64 _ _ _ hc).mono ?_; rintro e w' ⟨rfl, rfl⟩))
  go_ret
  exact ⟨rfl, rfl⟩
theorem broken_any (g : Nat) (x : Led) (w : World) (h : LedAt w g x) :
    Calls Try.prog 32 #[.pointer (some ⟨g, 0, none⟩)] w fun e w' => e = .returned (.bool (decide (x.reason ≠ 0))) ∧ w = w' := by
  have hc := h.broken
  have hf := Led.flag_b x
  clear h
  go_enter Try.func32, Try.ntmps32
  go_wp2_with (first | (go_at_call 71; refine (loadB _ _ _ _ rfl hc).mono ?_; rintro e w' ⟨rfl, rfl⟩))
  go_ret
  exact ⟨ret1 (vbool (by simp)), rfl⟩

set_option maxHeartbeats 1000000 in
theorem work_any (g : Nat) (x : Led) (n : Int) (w : World) (h : LedAt w g x) (ok : x.Ok) :
    Calls Try.prog 79 #[.pointer (some ⟨g, 0, none⟩), .int .i64 n] w fun e w' => e = .returned (.bool (x.work n).2) ∧ LedAt w' g (x.work n).1 ∧ w.grownBy w' (some g) := by
  have hS := h.S
  have hc := h.steps
  have t0 := ok.t0
  have t1 := ok.t1
  have s1 := ok.s1
  have HL := Lib.hid h
  by_cases hx : x.reason ≠ 0
  · have e := Lib.hid (show x.work n = (x, false) from if_pos hx)
    have HA := Lib.hid fun (w : World) (h : LedAt w g x) => add_broken g x (.pointer (some ⟨g, 6, none⟩)) n x.S 3 w h hx
    clear h ok hx
    go_enter Try.func79, Try.ntmps79
    go_wp2_with fail
    go_region_with (go_at_call 103; refine (HA.out _ ?_).mono ?_; (exact HL.out); rintro e w' ⟨rfl, rfl⟩)
    go_wp2_with fail
    go_ret
    exact ⟨by rw [e.out]; rfl, by rw [e.out]; exact HL.out, only_drew (only_refl _ _)⟩
  by_cases hn : n < 0 ∨ x.S - x.steps < n
  · have e := Lib.hid (show x.work n = (x.refused 3 n, false) by unfold Led.work; rw [if_neg hx, if_pos hn])
    have HA := Lib.hid fun (w : World) (h : LedAt w g x) => add_no g 6 x x.steps n x.S 3 w h (by simpa using hx) (by decide) h.steps t0 t1 s1 hn
    clear h ok hx hn
    go_enter Try.func79, Try.ntmps79
    go_wp2_with fail
    go_region_with (go_at_call 103; refine (HA.out _ ?_).mono ?_; (exact HL.out); rintro e w' ⟨rfl, hq1, hq2⟩)
    go_wp2_with fail
    go_ret
    exact ⟨by rw [e.out]; rfl, by rw [e.out]; exact hq1, only_trans (only_drew (only_refl _ _)) hq2⟩
  · have e := Lib.hid (show x.work n = ({ x with steps := x.steps + n }, true) by unfold Led.work; rw [if_neg hx, if_neg hn])
    have HA := Lib.hid fun (w : World) (h : LedAt w g x) => add_yes g 6 x x.steps n x.S 3 w h (by simpa using hx) h.steps t0 t1 s1 (by omega) (by omega)
    clear h ok hx hn
    go_enter Try.func79, Try.ntmps79
    go_wp2_with fail
    go_region_with (go_at_call 103; refine (HA.out _ ?_).mono ?_; (exact HL.out); rintro e w' ⟨rfl, rfl⟩)
    go_wp2_with fail
    go_ret
    exact ⟨by rw [e.out]; rfl, by rw [e.out]; exact (Blk.set_ HL.out 6 _).eq_ (by simp [Led.cells, Led.flag]), only_drew (only_set (only_refl _ _) 6 _)⟩

set_option maxHeartbeats 1000000 in
theorem take_any (g : Nat) (x : Led) (n : Int) (w : World) (h : LedAt w g x) (ok : x.Ok) :
    Calls Try.prog 76 #[.pointer (some ⟨g, 0, none⟩), .int .i64 n] w fun e w' => e = .returned (.bool (x.take n).2) ∧ LedAt w' g (x.take n).1 ∧ w.grownBy w' (some g) := by
  have hB := h.B
  have hc := h.bytes
  have y0 := ok.y0
  have y1 := ok.y1
  have b1 := ok.b1
  have p0 := ok.p0
  have p1 := ok.p1
  have HL := Lib.hid h
  by_cases hx : x.reason ≠ 0
  · have e := Lib.hid (show x.take n = (x, false) from if_pos hx)
    have HA := Lib.hid fun (w : World) (h : LedAt w g x) => add_broken g x (.pointer (some ⟨g, 4, none⟩)) n x.B 2 w h hx
    clear h ok hx
    go_enter Try.func76, Try.ntmps76
    go_wp2_with fail
    go_region_with (go_at_call 103; refine (HA.out _ ?_).mono ?_; (exact HL.out); rintro e w' ⟨rfl, rfl⟩)
    go_wp2_with fail
    go_ret
    exact ⟨by rw [e.out]; rfl, by rw [e.out]; exact HL.out, only_drew (only_refl _ _)⟩
  by_cases hn : n < 0 ∨ x.B - x.bytes < n
  · have e := Lib.hid (show x.take n = (x.refused 2 n, false) by unfold Led.take; rw [if_neg hx, if_pos hn])
    have HA := Lib.hid fun (w : World) (h : LedAt w g x) => add_no g 4 x x.bytes n x.B 2 w h (by simpa using hx) (by decide) h.bytes y0 y1 b1 hn
    clear h ok hx hn
    go_enter Try.func76, Try.ntmps76
    go_wp2_with fail
    go_region_with (go_at_call 103; refine (HA.out _ ?_).mono ?_; (exact HL.out); rintro e w' ⟨rfl, hq1, hq2⟩)
    go_wp2_with fail
    go_ret
    exact ⟨by rw [e.out]; rfl, by rw [e.out]; exact hq1, only_trans (only_drew (only_refl _ _)) hq2⟩
  · have e := Lib.hid (show x.take n = ({ x with bytes := x.bytes + n, peak := if x.peak < x.bytes + n then x.bytes + n else x.peak }, true) by unfold Led.take; rw [if_neg hx, if_neg hn])
    have HA := Lib.hid fun (w : World) (h : LedAt w g x) => add_yes g 4 x x.bytes n x.B 2 w h (by simpa using hx) h.bytes y0 y1 b1 (by omega) (by omega)
    have n0 : 0 ≤ n := by omega
    clear h ok hx hn
    go_enter Try.func76, Try.ntmps76
    go_wp2_with fail
    go_region_with (go_at_call 103; refine (HA.out _ ?_).mono ?_; (exact HL.out); rintro e w' ⟨rfl, rfl⟩)
    have hb1 : Blk ((w.setCell ⟨g, 4, none⟩ (.int .i64 (x.bytes + n))).drew) g 86 (x.cells.setIfInBounds 4 (.int .i64 (x.bytes + n))) := (Blk.set_ HL.out 4 _).drew
    have ho1 : w.grownBy ((w.setCell ⟨g, 4, none⟩ (.int .i64 (x.bytes + n))).drew) (some g) := only_drew (only_set (only_refl _ _) 4 _)
    go_wp2_with fail
    simp only [Act.put, List.getElem_toArray, List.getElem_cons_succ, List.getElem_cons_zero, List.setIfInBounds_toArray, List.set_cons_succ, List.set_cons_zero]
    go_loopg [5, 6] 0 (fun k a b wr => Blk wr g 86 (x.cells.setIfInBounds 4 (.int .i64 (x.bytes + n))) ∧ w.grownBy wr (some g))
    case atStart => exact ⟨hb1, ho1⟩
    case round =>
      obtain ⟨hb, ho⟩ := hrel
      have c4 : wr.cell? ⟨g, 4, none⟩ = some (.int .i64 (x.bytes + n)) := hb.cell 4
      have c5 : wr.cell? ⟨g, 5, none⟩ = some (.int .i64 x.peak) := hb.cell 5
      have f5 := hb.frozen 5
      have HB := Lib.hid hb
      clear hb hb1 ho1
      by_cases hp : x.bytes + n ≤ x.peak
      · have q := Lib.hid (show (if x.peak < x.bytes + n then x.bytes + n else x.peak) = x.peak from if_neg (by omega))
        go_wp2_with fail
        go_quiet ((go_at_call 41; first | exact Calls.quiet_of_same (load64_same _ _ _ c4) | exact Calls.quiet_of_same (load64_same _ _ _ c5)))
        go_wp2_with fail
        go_ret
        exact ⟨by rw [e.out]; rfl, by rw [e.out, q.out]; exact (Blk.drewN HB.out _).eq_ (by simp [Led.cells, Led.flag]), only_drewN ho _⟩
      · have q := Lib.hid (show (if x.peak < x.bytes + n then x.bytes + n else x.peak) = x.bytes + n from if_pos (by omega))
        go_wp2_with fail
        go_quiet ((go_at_call 41; first | exact Calls.quiet_of_same (load64_same _ _ _ c4) | exact Calls.quiet_of_same (load64_same _ _ _ c5)))
        go_wp2_with (go_at_call 104; refine (cas64 _ _ _ _ (by exact c5) (by exact f5)).mono ?_; rintro e w' ⟨rfl, rfl⟩)
        go_ret
        exact ⟨by rw [e.out]; rfl, by rw [e.out, q.out]; exact (Blk.set_ (Blk.drewN HB.out _) 5 _).eq_ (by simp [Led.cells, Led.flag]), only_set (only_drewN ho _) 5 _⟩
end Go.Proofs.Ytfgcbhcfekonnaa
