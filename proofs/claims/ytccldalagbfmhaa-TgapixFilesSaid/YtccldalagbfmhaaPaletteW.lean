/- The reference's Entry, awake and the walk of PaletteEntries. -/
import Derived.Test.YtccldalagbfmhaaPalette
namespace Go.Proofs.Ytccldalagbfmhaa
open Go.RowKit
set_option linter.unusedVariables false

theorem refMax_col10 (s : ByteArray) (w : World) :
    Calls Try.prog 62 #[.int .i64 ((pword s / 2 ^ 10 % 32 : Nat) : Int), .int .i64 31] w fun e w' => e = .returned (.int .i64 (pcol s 10)) ∧ w = w' :=
  refMax_any _ _ _ (smay_iff.2 ⟨by omega, by omega, by omega, by omega⟩)
theorem refMax_col5 (s : ByteArray) (w : World) :
    Calls Try.prog 62 #[.int .i64 ((pword s / 2 ^ 5 % 32 : Nat) : Int), .int .i64 31] w fun e w' => e = .returned (.int .i64 (pcol s 5)) ∧ w = w' :=
  refMax_any _ _ _ (smay_iff.2 ⟨by omega, by omega, by omega, by omega⟩)
theorem refMax_col0 (s : ByteArray) (w : World) :
    Calls Try.prog 62 #[.int .i64 ((pword s / 2 ^ 0 % 32 : Nat) : Int), .int .i64 31] w fun e w' => e = .returned (.int .i64 (pcol s 0)) ∧ w = w' :=
  refMax_any _ _ _ (smay_iff.2 ⟨by omega, by omega, by omega, by omega⟩)

set_option maxHeartbeats 1000000 in
theorem refEntry_two (s : ByteArray) (w : World) (h : 2 ≤ s.size) (hs : s.size ≤ 1073741824) :
    Calls Try.prog 51 #[.string s, .int .i64 2] w fun e w' => e = .returned (.agg #[.int .u8 (pcol s 10), .int .u8 (pcol s 5), .int .u8 (pcol s 0), .int .u8 255]) ∧ Below w.heap.size w w' := by
  have n0 : 0 < s.size := by omega
  have n1 : 1 < s.size := by omega
  have i1 : (1 : Int) < (s.size : Int) := by omega
  have b0 := UInt8.toNat_lt s[0]
  have b1 := UInt8.toNat_lt s[1]
  have hp : pword s = s[0].toNat + 256 * s[1].toNat := by
    unfold pword
    rw [List.getD_eq_getElem?_getD, List.getD_eq_getElem?_getD, get_list n0, get_list n1]
    rfl
  have e1 := Lib.hid (show (((s[0].toNat : Int) + (256 : Int) * (s[1].toNat : Int)) / (1024 : Int) % (32 : Int)) = ((pword s / 2 ^ 10 % 32 : Nat) : Int) by rw [hp]; omega)
  have e2 := Lib.hid (show (((s[0].toNat : Int) + (256 : Int) * (s[1].toNat : Int)) / (32 : Int) % (32 : Int)) = ((pword s / 2 ^ 5 % 32 : Nat) : Int) by rw [hp]; omega)
  have e3 := Lib.hid (show (((s[0].toNat : Int) + (256 : Int) * (s[1].toNat : Int)) % (32 : Int)) = ((pword s / 2 ^ 0 % 32 : Nat) : Int) by rw [hp]; omega)
  obtain ⟨p1, p2⟩ := pcol_range s 10
  obtain ⟨p3, p4⟩ := pcol_range s 5
  obtain ⟨p5, p6⟩ := pcol_range s 0
  have HP := Lib.hid hp
  clear hp
  go_enter Try.func51, Try.ntmps51
  go_wp2_with fail
  go_quiet (fail)
  go_wp2_with fail
  rw [e1.out]
  refine (refMax_col10 s _).mono ?_
  rintro e w' ⟨rfl, rfl⟩
  go_wp2_with fail
  rw [e2.out]
  refine (refMax_col5 s _).mono ?_
  rintro e w' ⟨rfl, rfl⟩
  go_wp2_with fail
  rw [e3.out]
  refine (refMax_col0 s _).mono ?_
  rintro e w' ⟨rfl, rfl⟩
  go_wp2_with fail
  refine bodyPost_ret (v := .agg #[.int .u8 (pcol s 10), .int .u8 (pcol s 5), .int .u8 (pcol s 0), .int .u8 255]) (by simp [results, Try.results51, go_sem]) rfl ⟨rfl, ?_⟩
  exact below_set4 (below_drewN ((Below.refl _ _).alloc (Nat.le_refl _) _) _) (Nat.le_refl _)

set_option maxHeartbeats 1000000 in
theorem refEntry_three (s : ByteArray) (k : Int) (w : World) (hk : k = 3 ∨ k = 4) (hs : s.size ≤ 1073741824) (h0 : 0 < s.size) (h1 : 1 < s.size) (h2 : 2 < s.size) :
    Calls Try.prog 51 #[.string s, .int .i64 k] w fun e w' => e = .returned (.agg #[.int .u8 (s[2].toNat : Int), .int .u8 (s[1].toNat : Int), .int .u8 (s[0].toNat : Int), .int .u8 255]) ∧ Below w.heap.size w w' := by
  have i1 : (1 : Int) < (s.size : Int) := by omega
  have i2 : (2 : Int) < (s.size : Int) := by omega
  rcases hk with rfl | rfl
  all_goals
    go_enter Try.func51, Try.ntmps51
    go_wp2_with fail
    go_region
    go_wp2_with fail
    refine bodyPost_ret (v := .agg #[.int .u8 (s[2].toNat : Int), .int .u8 (s[1].toNat : Int), .int .u8 (s[0].toNat : Int), .int .u8 255]) (by simp [results, Try.results51, go_sem]) rfl ⟨rfl, ?_⟩
    exact (((Below.refl _ _).alloc (Nat.le_refl _) _).alloc (by simp) _).drew

set_option maxHeartbeats 1000000 in
theorem refEntry_full (s : ByteArray) (w : World) (h : 4 ≤ s.size) (hs : s.size ≤ 1073741824) :
    Calls Try.prog 51 #[.string s, .int .i64 5] w fun e w' => e = .returned (.agg #[.int .u8 (s[2].toNat : Int), .int .u8 (s[1].toNat : Int), .int .u8 (s[0].toNat : Int), .int .u8 (s[3].toNat : Int)]) ∧ Below w.heap.size w w' := by
  have i1 : (1 : Int) < (s.size : Int) := by omega
  have i2 : (2 : Int) < (s.size : Int) := by omega
  have i3 : (3 : Int) < (s.size : Int) := by omega
  have h0 : 0 < s.size := by omega
  have h1 : 1 < s.size := by omega
  have h2 : 2 < s.size := by omega
  have h3 : 3 < s.size := by omega
  go_enter Try.func51, Try.ntmps51
  go_wp2_with fail
  go_region
  go_wp2_with fail
  refine bodyPost_ret (v := .agg #[.int .u8 (s[2].toNat : Int), .int .u8 (s[1].toNat : Int), .int .u8 (s[0].toNat : Int), .int .u8 (s[3].toNat : Int)]) (by simp [results, Try.results51, go_sem]) rfl ⟨rfl, ?_⟩
  exact (((Below.refl _ _).alloc (Nat.le_refl _) _).alloc (by simp) _).drew

theorem entry_three_at (s : ByteArray) (k r g b : Int) (w : World) (hk : k = 3 ∨ k = 4) (h : k ≤ s.size) (hs : s.size ≤ 1073741824) (h2 : 2 < s.size) (hr : (s[2].toNat : Int) = r) (hg : (s[1].toNat : Int) = g) (hb : (s[0].toNat : Int) = b) :
    Calls Try.prog 38 #[.string s, .int .i64 k] w fun e w' => e = .returned (.tuple #[.agg #[.int .u8 r, .int .u8 g, .int .u8 b, .int .u8 255], .bool true]) ∧ Below w.heap.size w w' := by
  subst hr hg hb
  exact entry_three s k w hk h hs (by omega) (by omega) h2
theorem entry_two_at (s : ByteArray) (r g b : Int) (w : World) (h : 2 ≤ s.size) (hs : s.size ≤ 1073741824) (hr : pcol s 10 = r) (hg : pcol s 5 = g) (hb : pcol s 0 = b) :
    Calls Try.prog 38 #[.string s, .int .i64 2] w fun e w' => e = .returned (.tuple #[.agg #[.int .u8 r, .int .u8 g, .int .u8 b, .int .u8 255], .bool true]) ∧ Below w.heap.size w w' := by
  subst hr hg hb
  exact entry_two s w h hs

theorem below_undrew {B : Nat} {w w1 : World} (h : Below B w.drew w1) : Below B w w1 := ⟨h.os, h.tape, h.output, h.size, h.block⟩

end Go.Proofs.Ytccldalagbfmhaa
