/- The law RasterImages. -/
import Derived.Test.YtkaijekdnbhjaaaRasImg7
import Derived.Test.YtkaijekdnbhjaaaImgOpen
namespace Go.Proofs.Ytkaijekdnbhjaaa
open Go.RowKit
set_option linter.unusedVariables false
set_option linter.unusedSimpArgs false

set_option maxRecDepth 100000 in
set_option maxHeartbeats 2000000 in
theorem ri_has {w : World} {aW aH bW bH X Y : Int} {aa ba : Option Addr} {an ac bn bc : Nat} {al bl : List UInt8} {p0 : Int} {p1 : Int} {p2 : Int} {p3 : Int} {bS : Bool} (hA : BytesAt w aa an al) (hB : BytesAt w ba bn bl) (h1 : an ≤ 2000) (h2 : bn ≤ 2000) (hS : decide (SameP aW aH bW bH al bl) = bS)
    (hR : decide (RightP aW aH an) = true) (x0 : 0 ≤ X) (x1 : X < aW) (y0 : 0 ≤ Y) (y1 : Y < aH)
    (hP : ∀ w, BytesAt w aa an al → Calls Try.prog 32 #[.agg #[.int .i64 aW, .int .i64 aH, .slice aa an ac], .int .i64 X, .int .i64 Y] w fun e w' => e = .returned (.tuple #[.agg #[.int .u8 p0, .int .u8 p1, .int .u8 p2, .int .u8 p3], .bool true]) ∧ Below w.heap.size w w')
    (hQ : ∀ w, BytesAt w aa an al → Calls Try.prog 38 #[.agg #[.int .i64 aW, .int .i64 aH, .slice aa an ac], .int .i64 X, .int .i64 Y] w fun e w' => e = .returned (.agg #[.int .u8 p0, .int .u8 p1, .int .u8 p2, .int .u8 p3]) ∧ Below w.heap.size w w') :
    Calls Try.prog 7 #[.agg #[.int .i64 aW, .int .i64 aH, .slice aa an ac], .agg #[.int .i64 bW, .int .i64 bH, .slice ba bn bc], .int .i64 X, .int .i64 Y] w fun e w' => e = .returned (.bool true) ∧ Below w.heap.size w w' := by
  have A0 : Blk ((w.alloc (.cells #[.int .i64 aW, .int .i64 aH, .slice aa an ac] 56)).alloc (.cells #[.int .i64 bW, .int .i64 bH, .slice ba bn bc] 56)) w.heap.size 56 #[.int .i64 aW, .int .i64 aH, .slice aa an ac] := (Blk.new _ _ _).alloc _
  have B0 : Blk ((w.alloc (.cells #[.int .i64 aW, .int .i64 aH, .slice aa an ac] 56)).alloc (.cells #[.int .i64 bW, .int .i64 bH, .slice ba bn bc] 56)) (w.heap.size + 1) 56 #[.int .i64 bW, .int .i64 bH, .slice ba bn bc] := Blk.new_at _ _ _ (by simp)
  have Z0 : Below w.heap.size w ((w.alloc (.cells #[.int .i64 aW, .int .i64 aH, .slice aa an ac] 56)).alloc (.cells #[.int .i64 bW, .int .i64 bH, .slice ba bn bc] 56)) := ((Below.refl _ _).alloc (Nat.le_refl _) _).alloc (by simp) _
  have HP := Lib.hid hP
  have HQ := Lib.hid hQ
  clear hP hQ
  have HR1 := Lib.hid (fun w => right_bool hR (a := aa) (c := ac) w)
  have HR2 := Lib.hid (fun w => refRight_bool hR (a := aa) (c := ac) w)
  have HS1 := Lib.hid (fun (v : World) (k : Nat) (q : IC w w.heap.size k aW aH aa an ac al bW bH ba bn bc bl p0 p1 p2 p3 v) => same_bool hS (c := ac) (c' := bc) q.a q.b)
  have HS2 := Lib.hid (fun (v : World) (k : Nat) (q : IC w w.heap.size k aW aH aa an ac al bW bH ba bn bc bl p0 p1 p2 p3 v) => refSame_bool hS (c := ac) (c' := bc) q.a q.b)
  have HC1 := Lib.hid (fun (v : World) (k : Nat) (q : IC w w.heap.size k aW aH aa an ac al bW bH ba bn bc bl p0 p1 p2 p3 v) => clone_any (W := aW) (H := aH) (c := ac) q.a (by omega))
  have HC2 := Lib.hid (fun (v : World) (k : Nat) (a4 : Option Addr) (c4 : Nat) (q4 : BytesAt v a4 an al) (q : IC w w.heap.size k aW aH aa an ac al bW bH ba bn bc bl p0 p1 p2 p3 v) => refSame_bool (same_self aW aH al) (c := c4) (c' := ac) q4 q.a)
  have HA := Lib.hid hA
  have HB := Lib.hid hB
  have e1 : ¬ (2000 : Int) < (an : Int) := by omega
  have e2 : ¬ (2000 : Int) < (bn : Int) := by omega
  clear hA hB h1 h2 hS hR
  go_enter Try.func7, Try.ntmps7
  go_wp2_with (go_at_call 32; refine (HP.out _ (HA.out.below Z0)).mono ?_; rintro e w1 ⟨rfl, b1⟩; have A1 := Blk.below A0 b1 (Blk.lt A0); have B1 := Blk.below B0 b1 (Blk.lt B0); have Z1 := below_next Z0 b1)
  have S2 : IC w w.heap.size w1.heap.size aW aH aa an ac al bW bH ba bn bc bl p0 p1 p2 p3 (w1.alloc (.cells #[.int .u8 p0, .int .u8 p1, .int .u8 p2, .int .u8 p3] 34)) := ⟨A1.alloc _, B1.alloc _, Blk.new _ _ _, HA.out, HB.out, Z1.alloc Z1.size _⟩
  change Code.wp _ _ _ _ (w1.alloc (.cells #[.int .u8 p0, .int .u8 p1, .int .u8 p2, .int .u8 p3] 34))
  generalize (w1.alloc (.cells #[.int .u8 p0, .int .u8 p1, .int .u8 p2, .int .u8 p3] 34)) = w2 at S2 ⊢
  clear A0 B0 Z0 A1 B1 Z1 b1
  go_cut [49] (fun v wc => v = .bool false ∧ IC w w.heap.size w1.heap.size aW aH aa an ac al bW bH ba bn bc bl p0 p1 p2 p3 wc)
  case first =>
    obtain ⟨c0, c1, c2, c3, c4, c5, c6, c7, c8, c9, _⟩ := S2.all
    have S2d := S2.drew
    go_region_held3 (fun w' => w'.cell? ⟨w.heap.size, 0, none⟩ = some (.int .i64 aW) ∧ w'.cell? ⟨w.heap.size, 1, none⟩ = some (.int .i64 aH) ∧ w'.cell? ⟨w.heap.size, 2, none⟩ = some (.slice aa an ac) ∧ w'.cell? ⟨w.heap.size + 1, 0, none⟩ = some (.int .i64 bW) ∧ w'.cell? ⟨w.heap.size + 1, 1, none⟩ = some (.int .i64 bH) ∧ w'.cell? ⟨w.heap.size + 1, 2, none⟩ = some (.slice ba bn bc) ∧ w'.cell? ⟨w1.heap.size, 0, none⟩ = some (.int .u8 p0) ∧ w'.cell? ⟨w1.heap.size, 1, none⟩ = some (.int .u8 p1) ∧ w'.cell? ⟨w1.heap.size, 2, none⟩ = some (.int .u8 p2) ∧ w'.cell? ⟨w1.heap.size, 3, none⟩ = some (.int .u8 p3) ∧ IC w w.heap.size w1.heap.size aW aH aa an ac al bW bH ba bn bc bl p0 p1 p2 p3 w')
      (first | exact ⟨c0, c1, c2, c3, c4, c5, c6, c7, c8, c9, S2.drew⟩ | (exact IC.all (by assumption)) | go_keep)
      (first
        | (go_at_call 36; have := kC; refine (HC2.out _ _ _ _ (by assumption) (by assumption)).mono ?_; rintro e w4 ⟨rfl, hb4⟩; have hIC := IC.next (hb := hb4) (by assumption))
        | (go_at_call 36; refine (HS2.out _ _ (by assumption)).mono ?_; rintro e w4 ⟨rfl, hb4⟩; have hIC := IC.next (hb := hb4) (by assumption))
        | (go_at_call 35; refine (HS1.out _ _ (by assumption)).mono ?_; rintro e w4 ⟨rfl, hb4⟩; have hIC := IC.next (hb := hb4) (by assumption))
        | (go_at_call 33; refine (HR1.out _).mono ?_; rintro e w4 ⟨rfl, hb4⟩; have hIC := IC.next (hb := hb4) (by assumption))
        | (go_at_call 34; refine (HR2.out _).mono ?_; rintro e w4 ⟨rfl, hb4⟩; have hIC := IC.next (hb := hb4) (by assumption))
        | (go_at_call 37; refine (HC1.out _ _ (by assumption)).mono ?_; rintro e w4 ⟨a4, c4, rfl, hba4, hb4⟩; have hIC := IC.next (hb := hb4) (by assumption); have kC := trivial))
    all_goals go_wp2_with fail
    all_goals
      go_meet
      case rel => exact ⟨rfl, hIC⟩
  case rest =>
    obtain ⟨rfl, hcut⟩ := hcut
    obtain ⟨c0, c1, c2, c3, c4, c5, c6, c7, c8, c9, _⟩ := hcut.all
    clear S2
    go_wp2_with (go_at_call 34; refine (HR2.out _).mono ?_; rintro e w5 ⟨rfl, hb5⟩; have h5 := hcut.next hb5; obtain ⟨j0, j1, j2, j3, j4, j5, j6, j7, j8, j9, _⟩ := h5.all)
    have h5d := h5.drew
    clear hcut hb5 c0 c1 c2 c3 c4 c5 c6 c7 c8 c9
    go_region_held3 (fun w' => w'.cell? ⟨w.heap.size, 0, none⟩ = some (.int .i64 aW) ∧ w'.cell? ⟨w.heap.size, 1, none⟩ = some (.int .i64 aH) ∧ w'.cell? ⟨w.heap.size, 2, none⟩ = some (.slice aa an ac) ∧ w'.cell? ⟨w.heap.size + 1, 0, none⟩ = some (.int .i64 bW) ∧ w'.cell? ⟨w.heap.size + 1, 1, none⟩ = some (.int .i64 bH) ∧ w'.cell? ⟨w.heap.size + 1, 2, none⟩ = some (.slice ba bn bc) ∧ w'.cell? ⟨w1.heap.size, 0, none⟩ = some (.int .u8 p0) ∧ w'.cell? ⟨w1.heap.size, 1, none⟩ = some (.int .u8 p1) ∧ w'.cell? ⟨w1.heap.size, 2, none⟩ = some (.int .u8 p2) ∧ w'.cell? ⟨w1.heap.size, 3, none⟩ = some (.int .u8 p3) ∧ IC w w.heap.size w1.heap.size aW aH aa an ac al bW bH ba bn bc bl p0 p1 p2 p3 w')
      (first | exact ⟨j0, j1, j2, j3, j4, j5, j6, j7, j8, j9, h5.drew⟩ | (exact IC.all (by assumption)) | go_keep)
      (first
        | (go_at_call 38; refine (HQ.out _ (IC.a (by assumption))).mono ?_; rintro e w4 ⟨rfl, hb4⟩; have hIC := IC.next (hb := hb4) (by assumption))
        | (go_at_call 31; refine (awake07_any _).mono ?_; rintro e w4 ⟨rfl, hb4⟩; have hIC := IC.next (hb := hb4) (by assumption)))
    all_goals go_wp2_with fail
    all_goals go_ret
    all_goals exact ⟨rfl, hIC.below⟩

set_option maxRecDepth 100000 in
set_option maxHeartbeats 2000000 in
theorem ri_not {w : World} {aW aH bW bH X Y : Int} {aa ba : Option Addr} {an ac bn bc : Nat} {al bl : List UInt8}  {bS : Bool} (hA : BytesAt w aa an al) (hB : BytesAt w ba bn bl) (h1 : an ≤ 2000) (h2 : bn ≤ 2000) (hS : decide (SameP aW aH bW bH al bl) = bS)
    (hR : decide (RightP aW aH an) = false)
    (hP : ∀ w, BytesAt w aa an al → Calls Try.prog 32 #[.agg #[.int .i64 aW, .int .i64 aH, .slice aa an ac], .int .i64 X, .int .i64 Y] w fun e w' => e = .returned (.tuple #[.agg #[.int .u8 0, .int .u8 0, .int .u8 0, .int .u8 0], .bool false]) ∧ Below w.heap.size w w') :
    Calls Try.prog 7 #[.agg #[.int .i64 aW, .int .i64 aH, .slice aa an ac], .agg #[.int .i64 bW, .int .i64 bH, .slice ba bn bc], .int .i64 X, .int .i64 Y] w fun e w' => e = .returned (.bool true) ∧ Below w.heap.size w w' := by
  have A0 : Blk ((w.alloc (.cells #[.int .i64 aW, .int .i64 aH, .slice aa an ac] 56)).alloc (.cells #[.int .i64 bW, .int .i64 bH, .slice ba bn bc] 56)) w.heap.size 56 #[.int .i64 aW, .int .i64 aH, .slice aa an ac] := (Blk.new _ _ _).alloc _
  have B0 : Blk ((w.alloc (.cells #[.int .i64 aW, .int .i64 aH, .slice aa an ac] 56)).alloc (.cells #[.int .i64 bW, .int .i64 bH, .slice ba bn bc] 56)) (w.heap.size + 1) 56 #[.int .i64 bW, .int .i64 bH, .slice ba bn bc] := Blk.new_at _ _ _ (by simp)
  have Z0 : Below w.heap.size w ((w.alloc (.cells #[.int .i64 aW, .int .i64 aH, .slice aa an ac] 56)).alloc (.cells #[.int .i64 bW, .int .i64 bH, .slice ba bn bc] 56)) := ((Below.refl _ _).alloc (Nat.le_refl _) _).alloc (by simp) _
  have HP := Lib.hid hP
  clear hP
  have HR1 := Lib.hid (fun w => right_bool hR (a := aa) (c := ac) w)
  have HR2 := Lib.hid (fun w => refRight_bool hR (a := aa) (c := ac) w)
  have HS1 := Lib.hid (fun (v : World) (k : Nat) (q : IC w w.heap.size k aW aH aa an ac al bW bH ba bn bc bl 0 0 0 0 v) => same_bool hS (c := ac) (c' := bc) q.a q.b)
  have HS2 := Lib.hid (fun (v : World) (k : Nat) (q : IC w w.heap.size k aW aH aa an ac al bW bH ba bn bc bl 0 0 0 0 v) => refSame_bool hS (c := ac) (c' := bc) q.a q.b)
  have HC1 := Lib.hid (fun (v : World) (k : Nat) (q : IC w w.heap.size k aW aH aa an ac al bW bH ba bn bc bl 0 0 0 0 v) => clone_any (W := aW) (H := aH) (c := ac) q.a (by omega))
  have HC2 := Lib.hid (fun (v : World) (k : Nat) (a4 : Option Addr) (c4 : Nat) (q4 : BytesAt v a4 an al) (q : IC w w.heap.size k aW aH aa an ac al bW bH ba bn bc bl 0 0 0 0 v) => refSame_bool (same_self aW aH al) (c := c4) (c' := ac) q4 q.a)
  have HA := Lib.hid hA
  have HB := Lib.hid hB
  have e1 : ¬ (2000 : Int) < (an : Int) := by omega
  have e2 : ¬ (2000 : Int) < (bn : Int) := by omega
  clear hA hB h1 h2 hS hR
  go_enter Try.func7, Try.ntmps7
  go_wp2_with (go_at_call 32; refine (HP.out _ (HA.out.below Z0)).mono ?_; rintro e w1 ⟨rfl, b1⟩; have A1 := Blk.below A0 b1 (Blk.lt A0); have B1 := Blk.below B0 b1 (Blk.lt B0); have Z1 := below_next Z0 b1)
  have S2 : IC w w.heap.size w1.heap.size aW aH aa an ac al bW bH ba bn bc bl 0 0 0 0 (w1.alloc (.cells #[.int .u8 0, .int .u8 0, .int .u8 0, .int .u8 0] 34)) := ⟨A1.alloc _, B1.alloc _, Blk.new _ _ _, HA.out, HB.out, Z1.alloc Z1.size _⟩
  change Code.wp _ _ _ _ (w1.alloc (.cells #[.int .u8 0, .int .u8 0, .int .u8 0, .int .u8 0] 34))
  generalize (w1.alloc (.cells #[.int .u8 0, .int .u8 0, .int .u8 0, .int .u8 0] 34)) = w2 at S2 ⊢
  clear A0 B0 Z0 A1 B1 Z1 b1
  go_cut [49] (fun v wc => v = .bool false ∧ IC w w.heap.size w1.heap.size aW aH aa an ac al bW bH ba bn bc bl 0 0 0 0 wc)
  case first =>
    obtain ⟨c0, c1, c2, c3, c4, c5, c6, c7, c8, c9, _⟩ := S2.all
    have S2d := S2.drew
    go_region_held3 (fun w' => w'.cell? ⟨w.heap.size, 0, none⟩ = some (.int .i64 aW) ∧ w'.cell? ⟨w.heap.size, 1, none⟩ = some (.int .i64 aH) ∧ w'.cell? ⟨w.heap.size, 2, none⟩ = some (.slice aa an ac) ∧ w'.cell? ⟨w.heap.size + 1, 0, none⟩ = some (.int .i64 bW) ∧ w'.cell? ⟨w.heap.size + 1, 1, none⟩ = some (.int .i64 bH) ∧ w'.cell? ⟨w.heap.size + 1, 2, none⟩ = some (.slice ba bn bc) ∧ w'.cell? ⟨w1.heap.size, 0, none⟩ = some (.int .u8 0) ∧ w'.cell? ⟨w1.heap.size, 1, none⟩ = some (.int .u8 0) ∧ w'.cell? ⟨w1.heap.size, 2, none⟩ = some (.int .u8 0) ∧ w'.cell? ⟨w1.heap.size, 3, none⟩ = some (.int .u8 0) ∧ IC w w.heap.size w1.heap.size aW aH aa an ac al bW bH ba bn bc bl 0 0 0 0 w')
      (first | exact ⟨c0, c1, c2, c3, c4, c5, c6, c7, c8, c9, S2.drew⟩ | (exact IC.all (by assumption)) | go_keep)
      (first
        | (go_at_call 36; have := kC; refine (HC2.out _ _ _ _ (by assumption) (by assumption)).mono ?_; rintro e w4 ⟨rfl, hb4⟩; have hIC := IC.next (hb := hb4) (by assumption))
        | (go_at_call 36; refine (HS2.out _ _ (by assumption)).mono ?_; rintro e w4 ⟨rfl, hb4⟩; have hIC := IC.next (hb := hb4) (by assumption))
        | (go_at_call 35; refine (HS1.out _ _ (by assumption)).mono ?_; rintro e w4 ⟨rfl, hb4⟩; have hIC := IC.next (hb := hb4) (by assumption))
        | (go_at_call 33; refine (HR1.out _).mono ?_; rintro e w4 ⟨rfl, hb4⟩; have hIC := IC.next (hb := hb4) (by assumption))
        | (go_at_call 34; refine (HR2.out _).mono ?_; rintro e w4 ⟨rfl, hb4⟩; have hIC := IC.next (hb := hb4) (by assumption))
        | (go_at_call 37; refine (HC1.out _ _ (by assumption)).mono ?_; rintro e w4 ⟨a4, c4, rfl, hba4, hb4⟩; have hIC := IC.next (hb := hb4) (by assumption); have kC := trivial))
    all_goals go_wp2_with fail
    all_goals
      go_meet
      case rel => exact ⟨rfl, hIC⟩
  case rest =>
    obtain ⟨rfl, hcut⟩ := hcut
    obtain ⟨c0, c1, c2, c3, c4, c5, c6, c7, c8, c9, _⟩ := hcut.all
    clear S2
    go_wp2_with (first
      | (go_at_call 34; refine (HR2.out _).mono ?_; rintro e w5 ⟨rfl, hb5⟩; have h5 := hcut.next hb5; obtain ⟨j0, j1, j2, j3, j4, j5, j6, j7, j8, j9, _⟩ := h5.all)
      | (go_at_call 31; refine (awake07_any _).mono ?_; rintro e w6 ⟨rfl, hb6⟩; have h6 := h5.next hb6))
    go_ret
    exact ⟨rfl, h6.below⟩

set_option maxRecDepth 100000 in
set_option maxHeartbeats 2000000 in
theorem ri_x0 {w : World} {aW aH bW bH X Y : Int} {aa ba : Option Addr} {an ac bn bc : Nat} {al bl : List UInt8}  {bS : Bool} (hA : BytesAt w aa an al) (hB : BytesAt w ba bn bl) (h1 : an ≤ 2000) (h2 : bn ≤ 2000) (hS : decide (SameP aW aH bW bH al bl) = bS)
    (hR : decide (RightP aW aH an) = true) (x0 : X < 0)
    (hP : ∀ w, BytesAt w aa an al → Calls Try.prog 32 #[.agg #[.int .i64 aW, .int .i64 aH, .slice aa an ac], .int .i64 X, .int .i64 Y] w fun e w' => e = .returned (.tuple #[.agg #[.int .u8 0, .int .u8 0, .int .u8 0, .int .u8 0], .bool false]) ∧ Below w.heap.size w w') :
    Calls Try.prog 7 #[.agg #[.int .i64 aW, .int .i64 aH, .slice aa an ac], .agg #[.int .i64 bW, .int .i64 bH, .slice ba bn bc], .int .i64 X, .int .i64 Y] w fun e w' => e = .returned (.bool true) ∧ Below w.heap.size w w' := by
  have A0 : Blk ((w.alloc (.cells #[.int .i64 aW, .int .i64 aH, .slice aa an ac] 56)).alloc (.cells #[.int .i64 bW, .int .i64 bH, .slice ba bn bc] 56)) w.heap.size 56 #[.int .i64 aW, .int .i64 aH, .slice aa an ac] := (Blk.new _ _ _).alloc _
  have B0 : Blk ((w.alloc (.cells #[.int .i64 aW, .int .i64 aH, .slice aa an ac] 56)).alloc (.cells #[.int .i64 bW, .int .i64 bH, .slice ba bn bc] 56)) (w.heap.size + 1) 56 #[.int .i64 bW, .int .i64 bH, .slice ba bn bc] := Blk.new_at _ _ _ (by simp)
  have Z0 : Below w.heap.size w ((w.alloc (.cells #[.int .i64 aW, .int .i64 aH, .slice aa an ac] 56)).alloc (.cells #[.int .i64 bW, .int .i64 bH, .slice ba bn bc] 56)) := ((Below.refl _ _).alloc (Nat.le_refl _) _).alloc (by simp) _
  have HP := Lib.hid hP
  clear hP
  have HR1 := Lib.hid (fun w => right_bool hR (a := aa) (c := ac) w)
  have HR2 := Lib.hid (fun w => refRight_bool hR (a := aa) (c := ac) w)
  have HS1 := Lib.hid (fun (v : World) (k : Nat) (q : IC w w.heap.size k aW aH aa an ac al bW bH ba bn bc bl 0 0 0 0 v) => same_bool hS (c := ac) (c' := bc) q.a q.b)
  have HS2 := Lib.hid (fun (v : World) (k : Nat) (q : IC w w.heap.size k aW aH aa an ac al bW bH ba bn bc bl 0 0 0 0 v) => refSame_bool hS (c := ac) (c' := bc) q.a q.b)
  have HC1 := Lib.hid (fun (v : World) (k : Nat) (q : IC w w.heap.size k aW aH aa an ac al bW bH ba bn bc bl 0 0 0 0 v) => clone_any (W := aW) (H := aH) (c := ac) q.a (by omega))
  have HC2 := Lib.hid (fun (v : World) (k : Nat) (a4 : Option Addr) (c4 : Nat) (q4 : BytesAt v a4 an al) (q : IC w w.heap.size k aW aH aa an ac al bW bH ba bn bc bl 0 0 0 0 v) => refSame_bool (same_self aW aH al) (c := c4) (c' := ac) q4 q.a)
  have HA := Lib.hid hA
  have HB := Lib.hid hB
  have e1 : ¬ (2000 : Int) < (an : Int) := by omega
  have e2 : ¬ (2000 : Int) < (bn : Int) := by omega
  clear hA hB h1 h2 hS hR
  go_enter Try.func7, Try.ntmps7
  go_wp2_with (go_at_call 32; refine (HP.out _ (HA.out.below Z0)).mono ?_; rintro e w1 ⟨rfl, b1⟩; have A1 := Blk.below A0 b1 (Blk.lt A0); have B1 := Blk.below B0 b1 (Blk.lt B0); have Z1 := below_next Z0 b1)
  have S2 : IC w w.heap.size w1.heap.size aW aH aa an ac al bW bH ba bn bc bl 0 0 0 0 (w1.alloc (.cells #[.int .u8 0, .int .u8 0, .int .u8 0, .int .u8 0] 34)) := ⟨A1.alloc _, B1.alloc _, Blk.new _ _ _, HA.out, HB.out, Z1.alloc Z1.size _⟩
  change Code.wp _ _ _ _ (w1.alloc (.cells #[.int .u8 0, .int .u8 0, .int .u8 0, .int .u8 0] 34))
  generalize (w1.alloc (.cells #[.int .u8 0, .int .u8 0, .int .u8 0, .int .u8 0] 34)) = w2 at S2 ⊢
  clear A0 B0 Z0 A1 B1 Z1 b1
  go_cut [49] (fun v wc => v = .bool false ∧ IC w w.heap.size w1.heap.size aW aH aa an ac al bW bH ba bn bc bl 0 0 0 0 wc)
  case first =>
    obtain ⟨c0, c1, c2, c3, c4, c5, c6, c7, c8, c9, _⟩ := S2.all
    have S2d := S2.drew
    go_region_held3 (fun w' => w'.cell? ⟨w.heap.size, 0, none⟩ = some (.int .i64 aW) ∧ w'.cell? ⟨w.heap.size, 1, none⟩ = some (.int .i64 aH) ∧ w'.cell? ⟨w.heap.size, 2, none⟩ = some (.slice aa an ac) ∧ w'.cell? ⟨w.heap.size + 1, 0, none⟩ = some (.int .i64 bW) ∧ w'.cell? ⟨w.heap.size + 1, 1, none⟩ = some (.int .i64 bH) ∧ w'.cell? ⟨w.heap.size + 1, 2, none⟩ = some (.slice ba bn bc) ∧ w'.cell? ⟨w1.heap.size, 0, none⟩ = some (.int .u8 0) ∧ w'.cell? ⟨w1.heap.size, 1, none⟩ = some (.int .u8 0) ∧ w'.cell? ⟨w1.heap.size, 2, none⟩ = some (.int .u8 0) ∧ w'.cell? ⟨w1.heap.size, 3, none⟩ = some (.int .u8 0) ∧ IC w w.heap.size w1.heap.size aW aH aa an ac al bW bH ba bn bc bl 0 0 0 0 w')
      (first | exact ⟨c0, c1, c2, c3, c4, c5, c6, c7, c8, c9, S2.drew⟩ | (exact IC.all (by assumption)) | go_keep)
      (first
        | (go_at_call 36; have := kC; refine (HC2.out _ _ _ _ (by assumption) (by assumption)).mono ?_; rintro e w4 ⟨rfl, hb4⟩; have hIC := IC.next (hb := hb4) (by assumption))
        | (go_at_call 36; refine (HS2.out _ _ (by assumption)).mono ?_; rintro e w4 ⟨rfl, hb4⟩; have hIC := IC.next (hb := hb4) (by assumption))
        | (go_at_call 35; refine (HS1.out _ _ (by assumption)).mono ?_; rintro e w4 ⟨rfl, hb4⟩; have hIC := IC.next (hb := hb4) (by assumption))
        | (go_at_call 33; refine (HR1.out _).mono ?_; rintro e w4 ⟨rfl, hb4⟩; have hIC := IC.next (hb := hb4) (by assumption))
        | (go_at_call 34; refine (HR2.out _).mono ?_; rintro e w4 ⟨rfl, hb4⟩; have hIC := IC.next (hb := hb4) (by assumption))
        | (go_at_call 37; refine (HC1.out _ _ (by assumption)).mono ?_; rintro e w4 ⟨a4, c4, rfl, hba4, hb4⟩; have hIC := IC.next (hb := hb4) (by assumption); have kC := trivial))
    all_goals go_wp2_with fail
    all_goals
      go_meet
      case rel => exact ⟨rfl, hIC⟩
  case rest =>
    obtain ⟨rfl, hcut⟩ := hcut
    obtain ⟨c0, c1, c2, c3, c4, c5, c6, c7, c8, c9, _⟩ := hcut.all
    clear S2
    go_wp2_with (first
      | (go_at_call 34; refine (HR2.out _).mono ?_; rintro e w5 ⟨rfl, hb5⟩; have h5 := hcut.next hb5; obtain ⟨j0, j1, j2, j3, j4, j5, j6, j7, j8, j9, _⟩ := h5.all)
      | (go_at_call 31; refine (awake07_any _).mono ?_; rintro e w6 ⟨rfl, hb6⟩; have h6 := h5.next hb6))
    go_ret
    exact ⟨rfl, h6.below⟩

set_option maxRecDepth 100000 in
set_option maxHeartbeats 2000000 in
theorem ri_x1 {w : World} {aW aH bW bH X Y : Int} {aa ba : Option Addr} {an ac bn bc : Nat} {al bl : List UInt8}  {bS : Bool} (hA : BytesAt w aa an al) (hB : BytesAt w ba bn bl) (h1 : an ≤ 2000) (h2 : bn ≤ 2000) (hS : decide (SameP aW aH bW bH al bl) = bS)
    (hR : decide (RightP aW aH an) = true) (x0 : ¬ X < 0) (x1 : aW ≤ X)
    (hP : ∀ w, BytesAt w aa an al → Calls Try.prog 32 #[.agg #[.int .i64 aW, .int .i64 aH, .slice aa an ac], .int .i64 X, .int .i64 Y] w fun e w' => e = .returned (.tuple #[.agg #[.int .u8 0, .int .u8 0, .int .u8 0, .int .u8 0], .bool false]) ∧ Below w.heap.size w w') :
    Calls Try.prog 7 #[.agg #[.int .i64 aW, .int .i64 aH, .slice aa an ac], .agg #[.int .i64 bW, .int .i64 bH, .slice ba bn bc], .int .i64 X, .int .i64 Y] w fun e w' => e = .returned (.bool true) ∧ Below w.heap.size w w' := by
  have A0 : Blk ((w.alloc (.cells #[.int .i64 aW, .int .i64 aH, .slice aa an ac] 56)).alloc (.cells #[.int .i64 bW, .int .i64 bH, .slice ba bn bc] 56)) w.heap.size 56 #[.int .i64 aW, .int .i64 aH, .slice aa an ac] := (Blk.new _ _ _).alloc _
  have B0 : Blk ((w.alloc (.cells #[.int .i64 aW, .int .i64 aH, .slice aa an ac] 56)).alloc (.cells #[.int .i64 bW, .int .i64 bH, .slice ba bn bc] 56)) (w.heap.size + 1) 56 #[.int .i64 bW, .int .i64 bH, .slice ba bn bc] := Blk.new_at _ _ _ (by simp)
  have Z0 : Below w.heap.size w ((w.alloc (.cells #[.int .i64 aW, .int .i64 aH, .slice aa an ac] 56)).alloc (.cells #[.int .i64 bW, .int .i64 bH, .slice ba bn bc] 56)) := ((Below.refl _ _).alloc (Nat.le_refl _) _).alloc (by simp) _
  have HP := Lib.hid hP
  clear hP
  have HR1 := Lib.hid (fun w => right_bool hR (a := aa) (c := ac) w)
  have HR2 := Lib.hid (fun w => refRight_bool hR (a := aa) (c := ac) w)
  have HS1 := Lib.hid (fun (v : World) (k : Nat) (q : IC w w.heap.size k aW aH aa an ac al bW bH ba bn bc bl 0 0 0 0 v) => same_bool hS (c := ac) (c' := bc) q.a q.b)
  have HS2 := Lib.hid (fun (v : World) (k : Nat) (q : IC w w.heap.size k aW aH aa an ac al bW bH ba bn bc bl 0 0 0 0 v) => refSame_bool hS (c := ac) (c' := bc) q.a q.b)
  have HC1 := Lib.hid (fun (v : World) (k : Nat) (q : IC w w.heap.size k aW aH aa an ac al bW bH ba bn bc bl 0 0 0 0 v) => clone_any (W := aW) (H := aH) (c := ac) q.a (by omega))
  have HC2 := Lib.hid (fun (v : World) (k : Nat) (a4 : Option Addr) (c4 : Nat) (q4 : BytesAt v a4 an al) (q : IC w w.heap.size k aW aH aa an ac al bW bH ba bn bc bl 0 0 0 0 v) => refSame_bool (same_self aW aH al) (c := c4) (c' := ac) q4 q.a)
  have HA := Lib.hid hA
  have HB := Lib.hid hB
  have e1 : ¬ (2000 : Int) < (an : Int) := by omega
  have e2 : ¬ (2000 : Int) < (bn : Int) := by omega
  clear hA hB h1 h2 hS hR
  go_enter Try.func7, Try.ntmps7
  go_wp2_with (go_at_call 32; refine (HP.out _ (HA.out.below Z0)).mono ?_; rintro e w1 ⟨rfl, b1⟩; have A1 := Blk.below A0 b1 (Blk.lt A0); have B1 := Blk.below B0 b1 (Blk.lt B0); have Z1 := below_next Z0 b1)
  have S2 : IC w w.heap.size w1.heap.size aW aH aa an ac al bW bH ba bn bc bl 0 0 0 0 (w1.alloc (.cells #[.int .u8 0, .int .u8 0, .int .u8 0, .int .u8 0] 34)) := ⟨A1.alloc _, B1.alloc _, Blk.new _ _ _, HA.out, HB.out, Z1.alloc Z1.size _⟩
  change Code.wp _ _ _ _ (w1.alloc (.cells #[.int .u8 0, .int .u8 0, .int .u8 0, .int .u8 0] 34))
  generalize (w1.alloc (.cells #[.int .u8 0, .int .u8 0, .int .u8 0, .int .u8 0] 34)) = w2 at S2 ⊢
  clear A0 B0 Z0 A1 B1 Z1 b1
  go_cut [49] (fun v wc => v = .bool false ∧ IC w w.heap.size w1.heap.size aW aH aa an ac al bW bH ba bn bc bl 0 0 0 0 wc)
  case first =>
    obtain ⟨c0, c1, c2, c3, c4, c5, c6, c7, c8, c9, _⟩ := S2.all
    have S2d := S2.drew
    go_region_held3 (fun w' => w'.cell? ⟨w.heap.size, 0, none⟩ = some (.int .i64 aW) ∧ w'.cell? ⟨w.heap.size, 1, none⟩ = some (.int .i64 aH) ∧ w'.cell? ⟨w.heap.size, 2, none⟩ = some (.slice aa an ac) ∧ w'.cell? ⟨w.heap.size + 1, 0, none⟩ = some (.int .i64 bW) ∧ w'.cell? ⟨w.heap.size + 1, 1, none⟩ = some (.int .i64 bH) ∧ w'.cell? ⟨w.heap.size + 1, 2, none⟩ = some (.slice ba bn bc) ∧ w'.cell? ⟨w1.heap.size, 0, none⟩ = some (.int .u8 0) ∧ w'.cell? ⟨w1.heap.size, 1, none⟩ = some (.int .u8 0) ∧ w'.cell? ⟨w1.heap.size, 2, none⟩ = some (.int .u8 0) ∧ w'.cell? ⟨w1.heap.size, 3, none⟩ = some (.int .u8 0) ∧ IC w w.heap.size w1.heap.size aW aH aa an ac al bW bH ba bn bc bl 0 0 0 0 w')
      (first | exact ⟨c0, c1, c2, c3, c4, c5, c6, c7, c8, c9, S2.drew⟩ | (exact IC.all (by assumption)) | go_keep)
      (first
        | (go_at_call 36; have := kC; refine (HC2.out _ _ _ _ (by assumption) (by assumption)).mono ?_; rintro e w4 ⟨rfl, hb4⟩; have hIC := IC.next (hb := hb4) (by assumption))
        | (go_at_call 36; refine (HS2.out _ _ (by assumption)).mono ?_; rintro e w4 ⟨rfl, hb4⟩; have hIC := IC.next (hb := hb4) (by assumption))
        | (go_at_call 35; refine (HS1.out _ _ (by assumption)).mono ?_; rintro e w4 ⟨rfl, hb4⟩; have hIC := IC.next (hb := hb4) (by assumption))
        | (go_at_call 33; refine (HR1.out _).mono ?_; rintro e w4 ⟨rfl, hb4⟩; have hIC := IC.next (hb := hb4) (by assumption))
        | (go_at_call 34; refine (HR2.out _).mono ?_; rintro e w4 ⟨rfl, hb4⟩; have hIC := IC.next (hb := hb4) (by assumption))
        | (go_at_call 37; refine (HC1.out _ _ (by assumption)).mono ?_; rintro e w4 ⟨a4, c4, rfl, hba4, hb4⟩; have hIC := IC.next (hb := hb4) (by assumption); have kC := trivial))
    all_goals go_wp2_with fail
    all_goals
      go_meet
      case rel => exact ⟨rfl, hIC⟩
  case rest =>
    obtain ⟨rfl, hcut⟩ := hcut
    obtain ⟨c0, c1, c2, c3, c4, c5, c6, c7, c8, c9, _⟩ := hcut.all
    clear S2
    go_wp2_with (first
      | (go_at_call 34; refine (HR2.out _).mono ?_; rintro e w5 ⟨rfl, hb5⟩; have h5 := hcut.next hb5; obtain ⟨j0, j1, j2, j3, j4, j5, j6, j7, j8, j9, _⟩ := h5.all)
      | (go_at_call 31; refine (awake07_any _).mono ?_; rintro e w6 ⟨rfl, hb6⟩; have h6 := h5.next hb6))
    go_ret
    exact ⟨rfl, h6.below⟩

set_option maxRecDepth 100000 in
set_option maxHeartbeats 2000000 in
theorem ri_y0 {w : World} {aW aH bW bH X Y : Int} {aa ba : Option Addr} {an ac bn bc : Nat} {al bl : List UInt8}  {bS : Bool} (hA : BytesAt w aa an al) (hB : BytesAt w ba bn bl) (h1 : an ≤ 2000) (h2 : bn ≤ 2000) (hS : decide (SameP aW aH bW bH al bl) = bS)
    (hR : decide (RightP aW aH an) = true) (x0 : ¬ X < 0) (x1 : ¬ aW ≤ X) (y0 : Y < 0)
    (hP : ∀ w, BytesAt w aa an al → Calls Try.prog 32 #[.agg #[.int .i64 aW, .int .i64 aH, .slice aa an ac], .int .i64 X, .int .i64 Y] w fun e w' => e = .returned (.tuple #[.agg #[.int .u8 0, .int .u8 0, .int .u8 0, .int .u8 0], .bool false]) ∧ Below w.heap.size w w') :
    Calls Try.prog 7 #[.agg #[.int .i64 aW, .int .i64 aH, .slice aa an ac], .agg #[.int .i64 bW, .int .i64 bH, .slice ba bn bc], .int .i64 X, .int .i64 Y] w fun e w' => e = .returned (.bool true) ∧ Below w.heap.size w w' := by
  have A0 : Blk ((w.alloc (.cells #[.int .i64 aW, .int .i64 aH, .slice aa an ac] 56)).alloc (.cells #[.int .i64 bW, .int .i64 bH, .slice ba bn bc] 56)) w.heap.size 56 #[.int .i64 aW, .int .i64 aH, .slice aa an ac] := (Blk.new _ _ _).alloc _
  have B0 : Blk ((w.alloc (.cells #[.int .i64 aW, .int .i64 aH, .slice aa an ac] 56)).alloc (.cells #[.int .i64 bW, .int .i64 bH, .slice ba bn bc] 56)) (w.heap.size + 1) 56 #[.int .i64 bW, .int .i64 bH, .slice ba bn bc] := Blk.new_at _ _ _ (by simp)
  have Z0 : Below w.heap.size w ((w.alloc (.cells #[.int .i64 aW, .int .i64 aH, .slice aa an ac] 56)).alloc (.cells #[.int .i64 bW, .int .i64 bH, .slice ba bn bc] 56)) := ((Below.refl _ _).alloc (Nat.le_refl _) _).alloc (by simp) _
  have HP := Lib.hid hP
  clear hP
  have HR1 := Lib.hid (fun w => right_bool hR (a := aa) (c := ac) w)
  have HR2 := Lib.hid (fun w => refRight_bool hR (a := aa) (c := ac) w)
  have HS1 := Lib.hid (fun (v : World) (k : Nat) (q : IC w w.heap.size k aW aH aa an ac al bW bH ba bn bc bl 0 0 0 0 v) => same_bool hS (c := ac) (c' := bc) q.a q.b)
  have HS2 := Lib.hid (fun (v : World) (k : Nat) (q : IC w w.heap.size k aW aH aa an ac al bW bH ba bn bc bl 0 0 0 0 v) => refSame_bool hS (c := ac) (c' := bc) q.a q.b)
  have HC1 := Lib.hid (fun (v : World) (k : Nat) (q : IC w w.heap.size k aW aH aa an ac al bW bH ba bn bc bl 0 0 0 0 v) => clone_any (W := aW) (H := aH) (c := ac) q.a (by omega))
  have HC2 := Lib.hid (fun (v : World) (k : Nat) (a4 : Option Addr) (c4 : Nat) (q4 : BytesAt v a4 an al) (q : IC w w.heap.size k aW aH aa an ac al bW bH ba bn bc bl 0 0 0 0 v) => refSame_bool (same_self aW aH al) (c := c4) (c' := ac) q4 q.a)
  have HA := Lib.hid hA
  have HB := Lib.hid hB
  have e1 : ¬ (2000 : Int) < (an : Int) := by omega
  have e2 : ¬ (2000 : Int) < (bn : Int) := by omega
  clear hA hB h1 h2 hS hR
  go_enter Try.func7, Try.ntmps7
  go_wp2_with (go_at_call 32; refine (HP.out _ (HA.out.below Z0)).mono ?_; rintro e w1 ⟨rfl, b1⟩; have A1 := Blk.below A0 b1 (Blk.lt A0); have B1 := Blk.below B0 b1 (Blk.lt B0); have Z1 := below_next Z0 b1)
  have S2 : IC w w.heap.size w1.heap.size aW aH aa an ac al bW bH ba bn bc bl 0 0 0 0 (w1.alloc (.cells #[.int .u8 0, .int .u8 0, .int .u8 0, .int .u8 0] 34)) := ⟨A1.alloc _, B1.alloc _, Blk.new _ _ _, HA.out, HB.out, Z1.alloc Z1.size _⟩
  change Code.wp _ _ _ _ (w1.alloc (.cells #[.int .u8 0, .int .u8 0, .int .u8 0, .int .u8 0] 34))
  generalize (w1.alloc (.cells #[.int .u8 0, .int .u8 0, .int .u8 0, .int .u8 0] 34)) = w2 at S2 ⊢
  clear A0 B0 Z0 A1 B1 Z1 b1
  go_cut [49] (fun v wc => v = .bool false ∧ IC w w.heap.size w1.heap.size aW aH aa an ac al bW bH ba bn bc bl 0 0 0 0 wc)
  case first =>
    obtain ⟨c0, c1, c2, c3, c4, c5, c6, c7, c8, c9, _⟩ := S2.all
    have S2d := S2.drew
    go_region_held3 (fun w' => w'.cell? ⟨w.heap.size, 0, none⟩ = some (.int .i64 aW) ∧ w'.cell? ⟨w.heap.size, 1, none⟩ = some (.int .i64 aH) ∧ w'.cell? ⟨w.heap.size, 2, none⟩ = some (.slice aa an ac) ∧ w'.cell? ⟨w.heap.size + 1, 0, none⟩ = some (.int .i64 bW) ∧ w'.cell? ⟨w.heap.size + 1, 1, none⟩ = some (.int .i64 bH) ∧ w'.cell? ⟨w.heap.size + 1, 2, none⟩ = some (.slice ba bn bc) ∧ w'.cell? ⟨w1.heap.size, 0, none⟩ = some (.int .u8 0) ∧ w'.cell? ⟨w1.heap.size, 1, none⟩ = some (.int .u8 0) ∧ w'.cell? ⟨w1.heap.size, 2, none⟩ = some (.int .u8 0) ∧ w'.cell? ⟨w1.heap.size, 3, none⟩ = some (.int .u8 0) ∧ IC w w.heap.size w1.heap.size aW aH aa an ac al bW bH ba bn bc bl 0 0 0 0 w')
      (first | exact ⟨c0, c1, c2, c3, c4, c5, c6, c7, c8, c9, S2.drew⟩ | (exact IC.all (by assumption)) | go_keep)
      (first
        | (go_at_call 36; have := kC; refine (HC2.out _ _ _ _ (by assumption) (by assumption)).mono ?_; rintro e w4 ⟨rfl, hb4⟩; have hIC := IC.next (hb := hb4) (by assumption))
        | (go_at_call 36; refine (HS2.out _ _ (by assumption)).mono ?_; rintro e w4 ⟨rfl, hb4⟩; have hIC := IC.next (hb := hb4) (by assumption))
        | (go_at_call 35; refine (HS1.out _ _ (by assumption)).mono ?_; rintro e w4 ⟨rfl, hb4⟩; have hIC := IC.next (hb := hb4) (by assumption))
        | (go_at_call 33; refine (HR1.out _).mono ?_; rintro e w4 ⟨rfl, hb4⟩; have hIC := IC.next (hb := hb4) (by assumption))
        | (go_at_call 34; refine (HR2.out _).mono ?_; rintro e w4 ⟨rfl, hb4⟩; have hIC := IC.next (hb := hb4) (by assumption))
        | (go_at_call 37; refine (HC1.out _ _ (by assumption)).mono ?_; rintro e w4 ⟨a4, c4, rfl, hba4, hb4⟩; have hIC := IC.next (hb := hb4) (by assumption); have kC := trivial))
    all_goals go_wp2_with fail
    all_goals
      go_meet
      case rel => exact ⟨rfl, hIC⟩
  case rest =>
    obtain ⟨rfl, hcut⟩ := hcut
    obtain ⟨c0, c1, c2, c3, c4, c5, c6, c7, c8, c9, _⟩ := hcut.all
    clear S2
    go_wp2_with (first
      | (go_at_call 34; refine (HR2.out _).mono ?_; rintro e w5 ⟨rfl, hb5⟩; have h5 := hcut.next hb5; obtain ⟨j0, j1, j2, j3, j4, j5, j6, j7, j8, j9, _⟩ := h5.all)
      | (go_at_call 31; refine (awake07_any _).mono ?_; rintro e w6 ⟨rfl, hb6⟩; have h6 := h5.next hb6))
    go_ret
    exact ⟨rfl, h6.below⟩

set_option maxRecDepth 100000 in
set_option maxHeartbeats 2000000 in
theorem ri_y1 {w : World} {aW aH bW bH X Y : Int} {aa ba : Option Addr} {an ac bn bc : Nat} {al bl : List UInt8}  {bS : Bool} (hA : BytesAt w aa an al) (hB : BytesAt w ba bn bl) (h1 : an ≤ 2000) (h2 : bn ≤ 2000) (hS : decide (SameP aW aH bW bH al bl) = bS)
    (hR : decide (RightP aW aH an) = true) (x0 : ¬ X < 0) (x1 : ¬ aW ≤ X) (y0 : ¬ Y < 0) (y1 : aH ≤ Y)
    (hP : ∀ w, BytesAt w aa an al → Calls Try.prog 32 #[.agg #[.int .i64 aW, .int .i64 aH, .slice aa an ac], .int .i64 X, .int .i64 Y] w fun e w' => e = .returned (.tuple #[.agg #[.int .u8 0, .int .u8 0, .int .u8 0, .int .u8 0], .bool false]) ∧ Below w.heap.size w w') :
    Calls Try.prog 7 #[.agg #[.int .i64 aW, .int .i64 aH, .slice aa an ac], .agg #[.int .i64 bW, .int .i64 bH, .slice ba bn bc], .int .i64 X, .int .i64 Y] w fun e w' => e = .returned (.bool true) ∧ Below w.heap.size w w' := by
  have A0 : Blk ((w.alloc (.cells #[.int .i64 aW, .int .i64 aH, .slice aa an ac] 56)).alloc (.cells #[.int .i64 bW, .int .i64 bH, .slice ba bn bc] 56)) w.heap.size 56 #[.int .i64 aW, .int .i64 aH, .slice aa an ac] := (Blk.new _ _ _).alloc _
  have B0 : Blk ((w.alloc (.cells #[.int .i64 aW, .int .i64 aH, .slice aa an ac] 56)).alloc (.cells #[.int .i64 bW, .int .i64 bH, .slice ba bn bc] 56)) (w.heap.size + 1) 56 #[.int .i64 bW, .int .i64 bH, .slice ba bn bc] := Blk.new_at _ _ _ (by simp)
  have Z0 : Below w.heap.size w ((w.alloc (.cells #[.int .i64 aW, .int .i64 aH, .slice aa an ac] 56)).alloc (.cells #[.int .i64 bW, .int .i64 bH, .slice ba bn bc] 56)) := ((Below.refl _ _).alloc (Nat.le_refl _) _).alloc (by simp) _
  have HP := Lib.hid hP
  clear hP
  have HR1 := Lib.hid (fun w => right_bool hR (a := aa) (c := ac) w)
  have HR2 := Lib.hid (fun w => refRight_bool hR (a := aa) (c := ac) w)
  have HS1 := Lib.hid (fun (v : World) (k : Nat) (q : IC w w.heap.size k aW aH aa an ac al bW bH ba bn bc bl 0 0 0 0 v) => same_bool hS (c := ac) (c' := bc) q.a q.b)
  have HS2 := Lib.hid (fun (v : World) (k : Nat) (q : IC w w.heap.size k aW aH aa an ac al bW bH ba bn bc bl 0 0 0 0 v) => refSame_bool hS (c := ac) (c' := bc) q.a q.b)
  have HC1 := Lib.hid (fun (v : World) (k : Nat) (q : IC w w.heap.size k aW aH aa an ac al bW bH ba bn bc bl 0 0 0 0 v) => clone_any (W := aW) (H := aH) (c := ac) q.a (by omega))
  have HC2 := Lib.hid (fun (v : World) (k : Nat) (a4 : Option Addr) (c4 : Nat) (q4 : BytesAt v a4 an al) (q : IC w w.heap.size k aW aH aa an ac al bW bH ba bn bc bl 0 0 0 0 v) => refSame_bool (same_self aW aH al) (c := c4) (c' := ac) q4 q.a)
  have HA := Lib.hid hA
  have HB := Lib.hid hB
  have e1 : ¬ (2000 : Int) < (an : Int) := by omega
  have e2 : ¬ (2000 : Int) < (bn : Int) := by omega
  clear hA hB h1 h2 hS hR
  go_enter Try.func7, Try.ntmps7
  go_wp2_with (go_at_call 32; refine (HP.out _ (HA.out.below Z0)).mono ?_; rintro e w1 ⟨rfl, b1⟩; have A1 := Blk.below A0 b1 (Blk.lt A0); have B1 := Blk.below B0 b1 (Blk.lt B0); have Z1 := below_next Z0 b1)
  have S2 : IC w w.heap.size w1.heap.size aW aH aa an ac al bW bH ba bn bc bl 0 0 0 0 (w1.alloc (.cells #[.int .u8 0, .int .u8 0, .int .u8 0, .int .u8 0] 34)) := ⟨A1.alloc _, B1.alloc _, Blk.new _ _ _, HA.out, HB.out, Z1.alloc Z1.size _⟩
  change Code.wp _ _ _ _ (w1.alloc (.cells #[.int .u8 0, .int .u8 0, .int .u8 0, .int .u8 0] 34))
  generalize (w1.alloc (.cells #[.int .u8 0, .int .u8 0, .int .u8 0, .int .u8 0] 34)) = w2 at S2 ⊢
  clear A0 B0 Z0 A1 B1 Z1 b1
  go_cut [49] (fun v wc => v = .bool false ∧ IC w w.heap.size w1.heap.size aW aH aa an ac al bW bH ba bn bc bl 0 0 0 0 wc)
  case first =>
    obtain ⟨c0, c1, c2, c3, c4, c5, c6, c7, c8, c9, _⟩ := S2.all
    have S2d := S2.drew
    go_region_held3 (fun w' => w'.cell? ⟨w.heap.size, 0, none⟩ = some (.int .i64 aW) ∧ w'.cell? ⟨w.heap.size, 1, none⟩ = some (.int .i64 aH) ∧ w'.cell? ⟨w.heap.size, 2, none⟩ = some (.slice aa an ac) ∧ w'.cell? ⟨w.heap.size + 1, 0, none⟩ = some (.int .i64 bW) ∧ w'.cell? ⟨w.heap.size + 1, 1, none⟩ = some (.int .i64 bH) ∧ w'.cell? ⟨w.heap.size + 1, 2, none⟩ = some (.slice ba bn bc) ∧ w'.cell? ⟨w1.heap.size, 0, none⟩ = some (.int .u8 0) ∧ w'.cell? ⟨w1.heap.size, 1, none⟩ = some (.int .u8 0) ∧ w'.cell? ⟨w1.heap.size, 2, none⟩ = some (.int .u8 0) ∧ w'.cell? ⟨w1.heap.size, 3, none⟩ = some (.int .u8 0) ∧ IC w w.heap.size w1.heap.size aW aH aa an ac al bW bH ba bn bc bl 0 0 0 0 w')
      (first | exact ⟨c0, c1, c2, c3, c4, c5, c6, c7, c8, c9, S2.drew⟩ | (exact IC.all (by assumption)) | go_keep)
      (first
        | (go_at_call 36; have := kC; refine (HC2.out _ _ _ _ (by assumption) (by assumption)).mono ?_; rintro e w4 ⟨rfl, hb4⟩; have hIC := IC.next (hb := hb4) (by assumption))
        | (go_at_call 36; refine (HS2.out _ _ (by assumption)).mono ?_; rintro e w4 ⟨rfl, hb4⟩; have hIC := IC.next (hb := hb4) (by assumption))
        | (go_at_call 35; refine (HS1.out _ _ (by assumption)).mono ?_; rintro e w4 ⟨rfl, hb4⟩; have hIC := IC.next (hb := hb4) (by assumption))
        | (go_at_call 33; refine (HR1.out _).mono ?_; rintro e w4 ⟨rfl, hb4⟩; have hIC := IC.next (hb := hb4) (by assumption))
        | (go_at_call 34; refine (HR2.out _).mono ?_; rintro e w4 ⟨rfl, hb4⟩; have hIC := IC.next (hb := hb4) (by assumption))
        | (go_at_call 37; refine (HC1.out _ _ (by assumption)).mono ?_; rintro e w4 ⟨a4, c4, rfl, hba4, hb4⟩; have hIC := IC.next (hb := hb4) (by assumption); have kC := trivial))
    all_goals go_wp2_with fail
    all_goals
      go_meet
      case rel => exact ⟨rfl, hIC⟩
  case rest =>
    obtain ⟨rfl, hcut⟩ := hcut
    obtain ⟨c0, c1, c2, c3, c4, c5, c6, c7, c8, c9, _⟩ := hcut.all
    clear S2
    go_wp2_with (first
      | (go_at_call 34; refine (HR2.out _).mono ?_; rintro e w5 ⟨rfl, hb5⟩; have h5 := hcut.next hb5; obtain ⟨j0, j1, j2, j3, j4, j5, j6, j7, j8, j9, _⟩ := h5.all)
      | (go_at_call 31; refine (awake07_any _).mono ?_; rintro e w6 ⟨rfl, hb6⟩; have h6 := h5.next hb6))
    go_ret
    exact ⟨rfl, h6.below⟩

set_option maxRecDepth 100000 in
theorem ri_long {w : World} {aW aH bW bH X Y : Int} {aa ba : Option Addr} {an ac bn bc : Nat} (h : 2000 < an) : Calls Try.prog 7 #[.agg #[.int .i64 aW, .int .i64 aH, .slice aa an ac], .agg #[.int .i64 bW, .int .i64 bH, .slice ba bn bc], .int .i64 X, .int .i64 Y] w fun e w' => e = .returned (.bool true) ∧ Below w.heap.size w w' := by
  have e1 : (2000 : Int) < (an : Int) := by omega
  have Z0 : Below w.heap.size w ((w.alloc (.cells #[.int .i64 aW, .int .i64 aH, .slice aa an ac] 56)).alloc (.cells #[.int .i64 bW, .int .i64 bH, .slice ba bn bc] 56)) := ((Below.refl _ _).alloc (Nat.le_refl _) _).alloc (by simp) _
  go_enter Try.func7, Try.ntmps7
  go_wp2_with (go_at_call 31; refine (awake07_any _).mono ?_; rintro e w6 ⟨rfl, hb6⟩)
  go_ret
  exact ⟨rfl, below_next Z0 hb6⟩
set_option maxRecDepth 100000 in
theorem ri_long2 {w : World} {aW aH bW bH X Y : Int} {aa ba : Option Addr} {an ac bn bc : Nat} (h1 : ¬ 2000 < an) (h : 2000 < bn) : Calls Try.prog 7 #[.agg #[.int .i64 aW, .int .i64 aH, .slice aa an ac], .agg #[.int .i64 bW, .int .i64 bH, .slice ba bn bc], .int .i64 X, .int .i64 Y] w fun e w' => e = .returned (.bool true) ∧ Below w.heap.size w w' := by
  have e1 : ¬ (2000 : Int) < (an : Int) := by omega
  have e2 : (2000 : Int) < (bn : Int) := by omega
  have Z0 : Below w.heap.size w ((w.alloc (.cells #[.int .i64 aW, .int .i64 aH, .slice aa an ac] 56)).alloc (.cells #[.int .i64 bW, .int .i64 bH, .slice ba bn bc] 56)) := ((Below.refl _ _).alloc (Nat.le_refl _) _).alloc (by simp) _
  go_enter Try.func7, Try.ntmps7
  go_wp2_with (go_at_call 31; refine (awake07_any _).mono ?_; rintro e w6 ⟨rfl, hb6⟩)
  go_ret
  exact ⟨rfl, below_next Z0 hb6⟩
theorem rasterImages_said (w : World) (aW aH : Int) (aa : Option Addr) (an ac : Nat) (al : List UInt8) (ha : fits5 aW ∧ fits5 aH ∧ BytesAt w aa an al ∧ an ≤ ac ∧ ac ≤ maxLen) (bW bH : Int) (ba : Option Addr) (bn bc : Nat) (bl : List UInt8) (hb : fits5 bW ∧ fits5 bH ∧ BytesAt w ba bn bl ∧ bn ≤ bc ∧ bc ≤ maxLen) (X : Int) (hX : (Lit.int .i64 X).wf = true) (Y : Int) (hY : (Lit.int .i64 Y).wf = true) :
    Calls Try.prog 7 #[.agg #[.int .i64 aW, .int .i64 aH, .slice aa an ac], .agg #[.int .i64 bW, .int .i64 bH, .slice ba bn bc], .int .i64 X, .int .i64 Y] w fun e w' => e = .returned (.bool true) ∧ Below w.heap.size w w' := by
  by_cases h1 : 2000 < an
  · exact ri_long h1
  by_cases h2 : 2000 < bn
  · exact ri_long2 h1 h2
  by_cases hp : HasP aW aH an X Y
  · obtain ⟨c0, c1, c2, c3, hP, hQ⟩ := pixels_has (c := ac) hp ha.2.2.1.1 ha.2.2.2.1
    exact ri_has ha.2.2.1 hb.2.2.1 (by omega) (by omega) rfl (decide_eq_true hp.1) hp.2.1.1 hp.2.1.2 hp.2.2.1 hp.2.2.2 hP hQ
  · have hP := fun (w : World) (_ : BytesAt w aa an al) => pixel_no (a := aa) (c := ac) (w := w) hp
    by_cases hr : RightP aW aH an
    · have hR := decide_eq_true hr
      by_cases x0 : X < 0
      · exact ri_x0 ha.2.2.1 hb.2.2.1 (by omega) (by omega) rfl hR x0 hP
      by_cases x1 : aW ≤ X
      · exact ri_x1 ha.2.2.1 hb.2.2.1 (by omega) (by omega) rfl hR x0 x1 hP
      by_cases y0 : Y < 0
      · exact ri_y0 ha.2.2.1 hb.2.2.1 (by omega) (by omega) rfl hR x0 x1 y0 hP
      exact ri_y1 ha.2.2.1 hb.2.2.1 (by omega) (by omega) rfl hR x0 x1 y0 (Int.not_lt.1 fun q => hp ⟨hr, ⟨by omega, by omega⟩, ⟨by omega, q⟩⟩) hP
    · exact ri_not ha.2.2.1 hb.2.2.1 (by omega) (by omega) rfl (decide_eq_false hr) hP
end Go.Proofs.Ytkaijekdnbhjaaa
