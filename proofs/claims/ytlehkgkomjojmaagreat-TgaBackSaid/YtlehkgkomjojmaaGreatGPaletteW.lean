/- The contracts of palette's functions and of the reference of chapter 10. The reference's Entry, awake and the walk of PaletteEntries. -/
import Derived.Test.YtlehkgkomjojmaaGreatGScaler
import Derived.Test.YtlehkgkomjojmaaGreatGBits
import Derived.Deep.RegionHeld3
import Derived.StillTailTactics
namespace Go.Proofs.YtlehkgkomjojmaaGreat
open Go.RowKit
set_option linter.unusedVariables false

/-- an entry's bytes, by its kind -/
def psize (k : Int) : Int := if k = 2 then 2 else if k = 3 then 3 else if k = 4 then 4 else if k = 5 then 4 else 0

theorem sizes_any (w : World) :
  Calls Tryz.prog 197 #[] w fun e w' => e = .returned (.agg #[.int .i64 0, .int .i64 0, .int .i64 2, .int .i64 3, .int .i64 4, .int .i64 4]) ∧ Below w.heap.size w w' := by
 go_enter Tryz.func197, Tryz.ntmps197
 go_wp2
 exact bodyPost_ret (v := .agg #[.int .i64 0, .int .i64 0, .int .i64 2, .int .i64 3, .int .i64 4, .int .i64 4]) (by simp [results, Tryz.results197, go_sem]) rfl ⟨rfl, (Below.refl _ _).alloc (Nat.le_refl _) _⟩

theorem psize_in {k : Int} (h : 0 ≤ k ∧ k < 6) : k = 0 ∨ k = 1 ∨ k = 2 ∨ k = 3 ∨ k = 4 ∨ k = 5 := by omega

set_option maxRecDepth 100000 in
theorem size_any (k : Int) (w : World) :
  Calls Tryz.prog 173 #[.int .i64 k] w fun e w' => e = .returned (.int .i64 (psize k)) ∧ Below w.heap.size w w' := by
 by_cases h : 0 ≤ k ∧ k < 6
 ·rcases psize_in h with rfl | rfl | rfl | rfl | rfl | rfl
  all_goals
   clear h
   go_enter Tryz.func173, Tryz.ntmps173
   go_wp2_with (go_at_call 197; refine (sizes_any _).mono ?_; rintro e w1 ⟨rfl, hb⟩)
   go_ret
   exact ⟨rfl, hb.alloc hb.size _⟩
 ·have e : psize k = 0 := by unfold psize; repeat rw [if_neg (by omega)]
  rw [e]
  clear e
  by_cases h1 : k < 0
  ·go_enter Tryz.func173, Tryz.ntmps173
   go_wp2_with (go_at_call 197; refine (sizes_any _).mono ?_; rintro e w1 ⟨rfl, hb⟩)
   go_ret
   exact ⟨rfl, hb.alloc hb.size _⟩
  ·have h2 : 6 ≤ k := by omega
   clear h
   go_enter Tryz.func173, Tryz.ntmps173
   go_wp2_with (go_at_call 197; refine (sizes_any _).mono ?_; rintro e w1 ⟨rfl, hb⟩)
   go_ret
   exact ⟨rfl, hb.alloc hb.size _⟩

theorem refSize_any (k : Int) (w : World) :
  Calls Tryz.prog 126 #[.int .i64 k] w fun e w' => e = .returned (.int .i64 (psize k)) ∧ w = w' := by
 by_cases h : k = 2 ∨ k = 3 ∨ k = 4 ∨ k = 5
 ·rcases h with rfl | rfl | rfl | rfl
  all_goals
   go_enter Tryz.func126, Tryz.ntmps126
   go_wp2
   go_ret
   exact ⟨rfl, rfl⟩
 ·have e : psize k = 0 := by unfold psize; repeat rw [if_neg (by omega)]
  rw [e]
  clear e
  have h2 : (k == 2) = false := by simp; omega
  have h3 : (k == 3) = false := by simp; omega
  have h4 : (k == 4) = false := by simp; omega
  have h5 : (k == 5) = false := by simp; omega
  clear h
  go_enter Tryz.func126, Tryz.ntmps126
  go_wp2
  go_ret
  exact ⟨rfl, rfl⟩

theorem five_any (word sh : Nat) (w : World) (h1 : word < 65536) (h2 : sh ≤ 10) :
  Calls Tryz.prog 208 #[.int .i64 word, .int .i64 sh] w fun e w' => e = .returned (.int .u8 (sround ((word / 2 ^ sh % 32 : Nat) : Int) 31)) ∧ w = w' := by
 have e1 : bits .and .i64 ((word : Int) / 2 ^ sh) 31 = ((word / 2 ^ sh % 32 : Nat) : Int) := by
  have e : ((word : Int) / 2 ^ sh) = ((word / 2 ^ sh : Nat) : Int) := by simp
  have hle : word / 2 ^ sh ≤ word := Nat.div_le_self _ _
  rw [e, and31 _ (by omega)]
 have hlt : word / 2 ^ sh % 32 < 32 := Nat.mod_lt _ (by omega)
 have e2 : smax ((word / 2 ^ sh % 32 : Nat) : Int) ((2 : Int) ^ 5 - 1) = sround ((word / 2 ^ sh % 32 : Nat) : Int) 31 := by
  unfold smax
  rw [if_pos (smay_iff.2 ⟨by decide, by decide, by omega, by omega⟩)]
  rfl
 have E1 := Lib.hid e1
 have E2 := Lib.hid e2
 clear e1 e2
 go_enter Tryz.func208, Tryz.ntmps208
 go_wp2_with fail
 rw [E1.out]
 refine (scaleBits_yes _ 5 _ (by omega) (by omega)).mono ?_
 rintro e w' ⟨rfl, rfl⟩
 rw [E2.out]
 go_wp2_with fail
 go_ret
 exact ⟨rfl, rfl⟩

/-- the sixteen bits of an entry of kind Two -/
def pword (s : ByteArray) : Nat := (s.data.toList.getD 0 0).toNat + 256 * (s.data.toList.getD 1 0).toNat

/-- a channel of an entry of kind Two -/
def pcol (s : ByteArray) (sh : Nat) : Int := sround ((pword s / 2 ^ sh % 32 : Nat) : Int) 31
theorem pcol_range (s : ByteArray) (sh : Nat) : 0 ≤ pcol s sh ∧ pcol s sh ≤ 255 := sround_range (by omega) (by omega) (by omega)
theorem five_col (s : ByteArray) (sh : Nat) (w : World) (h1 : pword s < 65536) (h2 : sh ≤ 10) :
  Calls Tryz.prog 208 #[.int .i64 (pword s : Nat), .int .i64 sh] w fun e w' => e = .returned (.int .u8 (pcol s sh)) ∧ w = w' := five_any _ _ _ h1 h2

theorem entry_none (s : ByteArray) (k : Int) (w : World) (hs : s.size ≤ 1073741824) (h : psize k = 0 ∨ (s.size : Int) < psize k) :
  Calls Tryz.prog 196 #[.string s, .int .i64 k] w fun e w' => e = .returned (.tuple #[.agg #[.int .u8 0, .int .u8 0, .int .u8 0, .int .u8 0], .bool false]) ∧ Below w.heap.size w w' := by
 cases h0 : (psize k == 0)
 ·have h1 : (s.size : Int) < psize k := by
   have : ¬ psize k = 0 := by simpa using h0
   omega
  clear h
  go_enter Tryz.func196, Tryz.ntmps196
  go_wp2_with (go_at_call 173; refine (size_any _ _).mono ?_; rintro e w1 ⟨rfl, hb⟩; obtain ⟨hc, hf⟩ := bcell hb)
  refine bodyPost_ret (v := .tuple #[.agg #[.int .u8 0, .int .u8 0, .int .u8 0, .int .u8 0], .bool false]) (by simp [results, Tryz.results196, go_sem, hc]) rfl ⟨rfl, ?_⟩
  exact below_set4 (below_box hb) (Nat.le_refl _)
 ·clear h
  go_enter Tryz.func196, Tryz.ntmps196
  go_wp2_with (go_at_call 173; refine (size_any _ _).mono ?_; rintro e w1 ⟨rfl, hb⟩; obtain ⟨hc, hf⟩ := bcell hb)
  refine bodyPost_ret (v := .tuple #[.agg #[.int .u8 0, .int .u8 0, .int .u8 0, .int .u8 0], .bool false]) (by simp [results, Tryz.results196, go_sem, hc]) rfl ⟨rfl, ?_⟩
  exact below_set4 (below_box hb) (Nat.le_refl _)

set_option maxHeartbeats 1000000 in
theorem entry_two (s : ByteArray) (w : World) (h : 2 ≤ s.size) (hs : s.size ≤ 1073741824) :
  Calls Tryz.prog 196 #[.string s, .int .i64 2] w fun e w' => e = .returned (.tuple #[.agg #[.int .u8 (pcol s 10), .int .u8 (pcol s 5), .int .u8 (pcol s 0), .int .u8 255], .bool true]) ∧ Below w.heap.size w w' := by
 have n0 : 0 < s.size := by omega
 have n1 : 1 < s.size := by omega
 have i1 : (1 : Int) < (s.size : Int) := by omega
 have i2 : (2 : Int) ≤ (s.size : Int) := by omega
 have b0 := UInt8.toNat_lt s[0]
 have b1 := UInt8.toNat_lt s[1]
 have hp : pword s = s[0].toNat + 256 * s[1].toNat := by
  unfold pword
  rw [List.getD_eq_getElem?_getD, List.getD_eq_getElem?_getD, get_list n0, get_list n1]
  rfl
 have hlt : pword s < 65536 := by omega
 have hw : bits .or .i64 (wrap64 (s[0].toNat : Int)) (wrap64 (wrap64 (s[1].toNat : Int) * 256)) = ((pword s : Nat) : Int) := by
  rw [wrap64_id _ (by omega) (by omega), wrap64_id (s[1].toNat : Int) (by omega) (by omega), wrap64_id _ (by omega) (by omega), or8 _ _ b0 b1, hp]
 have HW := Lib.hid hw
 have e2 := Lib.hid (show psize 2 = 2 from rfl)
 clear hw hp b0 b1
 go_enter Tryz.func196, Tryz.ntmps196
 go_wp2_with fail
 refine (size_any _ _).mono ?_
 rintro e w1 ⟨rfl, hb⟩
 obtain ⟨hc, hf⟩ := bcell hb
 rw [e2.out]
 go_wp2_with fail
 go_quiet (fail)
 go_wp2_with fail
 rw [HW.out]
 refine (five_col s 10 _ hlt (by omega)).mono ?_
 rintro e w' ⟨rfl, rfl⟩
 go_wp2_with fail
 refine (five_col s 5 _ hlt (by omega)).mono ?_
 rintro e w' ⟨rfl, rfl⟩
 go_wp2_with fail
 refine (five_col s 0 _ hlt (by omega)).mono ?_
 rintro e w' ⟨rfl, rfl⟩
 go_wp2_with fail
 exact bodyPost_ret (v := .tuple #[.agg #[.int .u8 (pcol s 10), .int .u8 (pcol s 5), .int .u8 (pcol s 0), .int .u8 255], .bool true]) (by simp [results, Tryz.results196, go_sem, hc]) rfl ⟨rfl, below_set4 (below_drewN (below_box hb) _) (Nat.le_refl _)⟩

set_option maxHeartbeats 1000000 in
theorem entry_three (s : ByteArray) (k : Int) (w : World) (hk : k = 3 ∨ k = 4) (h : k ≤ s.size) (hs : s.size ≤ 1073741824) (h0 : 0 < s.size) (h1 : 1 < s.size) (h2 : 2 < s.size) :
  Calls Tryz.prog 196 #[.string s, .int .i64 k] w fun e w' => e = .returned (.tuple #[.agg #[.int .u8 (s[2].toNat : Int), .int .u8 (s[1].toNat : Int), .int .u8 (s[0].toNat : Int), .int .u8 255], .bool true]) ∧ Below w.heap.size w w' := by
 have i1 : (1 : Int) < (s.size : Int) := by omega
 have i2 : (2 : Int) < (s.size : Int) := by omega
 rcases hk with rfl | rfl
 ·have e2 := Lib.hid (show psize 3 = 3 from rfl)
  go_enter Tryz.func196, Tryz.ntmps196
  go_wp2_with fail
  refine (size_any _ _).mono ?_
  rintro e w1 ⟨rfl, hb⟩
  obtain ⟨hc, hf⟩ := bcell hb
  have hz := below_box_size hb
  rw [e2.out]
  go_wp2_with fail
  go_region
  go_wp2_with fail
  exact bodyPost_ret (v := .tuple #[.agg #[.int .u8 (s[2].toNat : Int), .int .u8 (s[1].toNat : Int), .int .u8 (s[0].toNat : Int), .int .u8 255], .bool true]) (by simp [results, Tryz.results196, go_sem, hc]) rfl ⟨rfl, (below_set4 (below_box hb) (Nat.le_refl _)).drew⟩
 ·have e2 := Lib.hid (show psize 4 = 4 from rfl)
  go_enter Tryz.func196, Tryz.ntmps196
  go_wp2_with fail
  refine (size_any _ _).mono ?_
  rintro e w1 ⟨rfl, hb⟩
  obtain ⟨hc, hf⟩ := bcell hb
  have hz := below_box_size hb
  rw [e2.out]
  go_wp2_with fail
  go_region
  go_wp2_with fail
  exact bodyPost_ret (v := .tuple #[.agg #[.int .u8 (s[2].toNat : Int), .int .u8 (s[1].toNat : Int), .int .u8 (s[0].toNat : Int), .int .u8 255], .bool true]) (by simp [results, Tryz.results196, go_sem, hc]) rfl ⟨rfl, (below_set4 (below_box hb) (Nat.le_refl _)).drew⟩

set_option maxHeartbeats 1000000 in
theorem entry_full (s : ByteArray) (w : World) (h : 4 ≤ s.size) (hs : s.size ≤ 1073741824) :
  Calls Tryz.prog 196 #[.string s, .int .i64 5] w fun e w' => e = .returned (.tuple #[.agg #[.int .u8 (s[2].toNat : Int), .int .u8 (s[1].toNat : Int), .int .u8 (s[0].toNat : Int), .int .u8 (s[3].toNat : Int)], .bool true]) ∧ Below w.heap.size w w' := by
 have i1 : (1 : Int) < (s.size : Int) := by omega
 have i2 : (2 : Int) < (s.size : Int) := by omega
 have i3 : (3 : Int) < (s.size : Int) := by omega
 have h0 : 0 < s.size := by omega
 have h1 : 1 < s.size := by omega
 have h2 : 2 < s.size := by omega
 have h3 : 3 < s.size := by omega
 have i4 : (4 : Int) ≤ (s.size : Int) := by omega
 have e2 := Lib.hid (show psize 5 = 4 from rfl)
 go_enter Tryz.func196, Tryz.ntmps196
 go_wp2_with fail
 refine (size_any _ _).mono ?_
 rintro e w1 ⟨rfl, hb⟩
 obtain ⟨hc, hf⟩ := bcell hb
 have hz := below_box_size hb
 rw [e2.out]
 go_wp2_with fail
 go_region
 go_wp2_with fail
 exact bodyPost_ret (v := .tuple #[.agg #[.int .u8 (s[2].toNat : Int), .int .u8 (s[1].toNat : Int), .int .u8 (s[0].toNat : Int), .int .u8 (s[3].toNat : Int)], .bool true]) (by simp [results, Tryz.results196, go_sem, hc]) rfl ⟨rfl, (below_set4 (below_box hb) (Nat.le_refl _)).drew⟩
end Go.Proofs.YtlehkgkomjojmaaGreat
namespace Go.Proofs.YtlehkgkomjojmaaGreat
open Go.RowKit
set_option linter.unusedVariables false

theorem refMax_col10 (s : ByteArray) (w : World) :
  Calls Tryz.prog 200 #[.int .i64 ((pword s / 2 ^ 10 % 32 : Nat) : Int), .int .i64 31] w fun e w' => e = .returned (.int .i64 (pcol s 10)) ∧ w = w' :=
 refMax_any _ _ _ (smay_iff.2 ⟨by omega, by omega, by omega, by omega⟩)
theorem refMax_col5 (s : ByteArray) (w : World) :
  Calls Tryz.prog 200 #[.int .i64 ((pword s / 2 ^ 5 % 32 : Nat) : Int), .int .i64 31] w fun e w' => e = .returned (.int .i64 (pcol s 5)) ∧ w = w' :=
 refMax_any _ _ _ (smay_iff.2 ⟨by omega, by omega, by omega, by omega⟩)
theorem refMax_col0 (s : ByteArray) (w : World) :
  Calls Tryz.prog 200 #[.int .i64 ((pword s / 2 ^ 0 % 32 : Nat) : Int), .int .i64 31] w fun e w' => e = .returned (.int .i64 (pcol s 0)) ∧ w = w' :=
 refMax_any _ _ _ (smay_iff.2 ⟨by omega, by omega, by omega, by omega⟩)

set_option maxHeartbeats 1000000 in
theorem refEntry_two (s : ByteArray) (w : World) (h : 2 ≤ s.size) (hs : s.size ≤ 1073741824) :
  Calls Tryz.prog 181 #[.string s, .int .i64 2] w fun e w' => e = .returned (.agg #[.int .u8 (pcol s 10), .int .u8 (pcol s 5), .int .u8 (pcol s 0), .int .u8 255]) ∧ Below w.heap.size w w' := by
 have n0 : 0 < s.size := by omega
 have n1 : 1 < s.size := by omega
 have i1 : (1 : Int) < (s.size : Int) := by omega
 have b0 := UInt8.toNat_lt s[0]
 have b1 := UInt8.toNat_lt s[1]
 have hp : pword s = s[0].toNat + 256 * s[1].toNat := by
  unfold pword
  rw [List.getD_eq_getElem?_getD, List.getD_eq_getElem?_getD, get_list n0, get_list n1]
  rfl
 have e1 := Lib.hid (show (((s[0].toNat : Int) + (256 : Int) * (s[1].toNat : Int)) / (1024 : Int) % (32 : Int)) = ((pword s / 2 ^ 10 % 32 : Nat) : Int) by rw [hp]; omega)
 have e2 := Lib.hid (show (((s[0].toNat : Int) + (256 : Int) * (s[1].toNat : Int)) / (32 : Int) % (32 : Int)) = ((pword s / 2 ^ 5 % 32 : Nat) : Int) by rw [hp]; omega)
 have e3 := Lib.hid (show (((s[0].toNat : Int) + (256 : Int) * (s[1].toNat : Int)) % (32 : Int)) = ((pword s / 2 ^ 0 % 32 : Nat) : Int) by rw [hp]; omega)
 obtain ⟨p1, p2⟩ := pcol_range s 10
 obtain ⟨p3, p4⟩ := pcol_range s 5
 obtain ⟨p5, p6⟩ := pcol_range s 0
 have HP := Lib.hid hp
 clear hp
 go_enter Tryz.func181, Tryz.ntmps181
 go_wp2_with fail
 go_quiet (fail)
 go_wp2_with fail
 rw [e1.out]
 refine (refMax_col10 s _).mono ?_
 rintro e w' ⟨rfl, rfl⟩
 go_wp2_with fail
 rw [e2.out]
 refine (refMax_col5 s _).mono ?_
 rintro e w' ⟨rfl, rfl⟩
 go_wp2_with fail
 rw [e3.out]
 refine (refMax_col0 s _).mono ?_
 rintro e w' ⟨rfl, rfl⟩
 go_wp2_with fail
 refine bodyPost_ret (v := .agg #[.int .u8 (pcol s 10), .int .u8 (pcol s 5), .int .u8 (pcol s 0), .int .u8 255]) (by simp [results, Tryz.results181, go_sem]) rfl ⟨rfl, ?_⟩
 exact below_set4 (below_drewN ((Below.refl _ _).alloc (Nat.le_refl _) _) _) (Nat.le_refl _)

set_option maxHeartbeats 1000000 in
theorem refEntry_three (s : ByteArray) (k : Int) (w : World) (hk : k = 3 ∨ k = 4) (hs : s.size ≤ 1073741824) (h0 : 0 < s.size) (h1 : 1 < s.size) (h2 : 2 < s.size) :
  Calls Tryz.prog 181 #[.string s, .int .i64 k] w fun e w' => e = .returned (.agg #[.int .u8 (s[2].toNat : Int), .int .u8 (s[1].toNat : Int), .int .u8 (s[0].toNat : Int), .int .u8 255]) ∧ Below w.heap.size w w' := by
 have i1 : (1 : Int) < (s.size : Int) := by omega
 have i2 : (2 : Int) < (s.size : Int) := by omega
 rcases hk with rfl | rfl
 all_goals
  go_enter Tryz.func181, Tryz.ntmps181
  go_wp2_with fail
  go_region
  go_wp2_with fail
  refine bodyPost_ret (v := .agg #[.int .u8 (s[2].toNat : Int), .int .u8 (s[1].toNat : Int), .int .u8 (s[0].toNat : Int), .int .u8 255]) (by simp [results, Tryz.results181, go_sem]) rfl ⟨rfl, ?_⟩
  exact (((Below.refl _ _).alloc (Nat.le_refl _) _).alloc (by simp) _).drew

set_option maxHeartbeats 1000000 in
theorem refEntry_full (s : ByteArray) (w : World) (h : 4 ≤ s.size) (hs : s.size ≤ 1073741824) :
  Calls Tryz.prog 181 #[.string s, .int .i64 5] w fun e w' => e = .returned (.agg #[.int .u8 (s[2].toNat : Int), .int .u8 (s[1].toNat : Int), .int .u8 (s[0].toNat : Int), .int .u8 (s[3].toNat : Int)]) ∧ Below w.heap.size w w' := by
 have i1 : (1 : Int) < (s.size : Int) := by omega
 have i2 : (2 : Int) < (s.size : Int) := by omega
 have i3 : (3 : Int) < (s.size : Int) := by omega
 have h0 : 0 < s.size := by omega
 have h1 : 1 < s.size := by omega
 have h2 : 2 < s.size := by omega
 have h3 : 3 < s.size := by omega
 go_enter Tryz.func181, Tryz.ntmps181
 go_wp2_with fail
 go_region
 go_wp2_with fail
 refine bodyPost_ret (v := .agg #[.int .u8 (s[2].toNat : Int), .int .u8 (s[1].toNat : Int), .int .u8 (s[0].toNat : Int), .int .u8 (s[3].toNat : Int)]) (by simp [results, Tryz.results181, go_sem]) rfl ⟨rfl, ?_⟩
 exact (((Below.refl _ _).alloc (Nat.le_refl _) _).alloc (by simp) _).drew

end Go.Proofs.YtlehkgkomjojmaaGreat
