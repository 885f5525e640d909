/- The contracts of palette's functions and of the reference of chapter 10. -/
import Derived.Test.YtccldalagbfmhaaScale
import Derived.Test.YtccldalagbfmhaaBits
import Derived.Deep.RegionHeld3
import Derived.StillTailTactics
namespace Go.Proofs.Ytccldalagbfmhaa
open Go.RowKit
set_option linter.unusedVariables false

/-- an entry's bytes, by its kind -/
def psize (k : Int) : Int := if k = 2 then 2 else if k = 3 then 3 else if k = 4 then 4 else if k = 5 then 4 else 0

theorem sizes_any (w : World) :
    Calls Try.prog 47 #[] w fun e w' => e = .returned (.agg #[.int .i64 0, .int .i64 0, .int .i64 2, .int .i64 3, .int .i64 4, .int .i64 4]) ∧ Below w.heap.size w w' := by
  go_enter Try.func47, Try.ntmps47
  go_wp2
  exact bodyPost_ret (v := .agg #[.int .i64 0, .int .i64 0, .int .i64 2, .int .i64 3, .int .i64 4, .int .i64 4]) (by simp [results, Try.results47, go_sem]) rfl ⟨rfl, (Below.refl _ _).alloc (Nat.le_refl _) _⟩

theorem psize_in {k : Int} (h : 0 ≤ k ∧ k < 6) : k = 0 ∨ k = 1 ∨ k = 2 ∨ k = 3 ∨ k = 4 ∨ k = 5 := by omega

set_option maxRecDepth 100000 in
theorem size_any (k : Int) (w : World) :
    Calls Try.prog 25 #[.int .i64 k] w fun e w' => e = .returned (.int .i64 (psize k)) ∧ Below w.heap.size w w' := by
  by_cases h : 0 ≤ k ∧ k < 6
  · rcases psize_in h with rfl | rfl | rfl | rfl | rfl | rfl
    all_goals
      clear h
      go_enter Try.func25, Try.ntmps25
      go_wp2_with (go_at_call 47; refine (sizes_any _).mono ?_; rintro e w1 ⟨rfl, hb⟩)
      go_ret
      exact ⟨rfl, hb.alloc hb.size _⟩
  · have e : psize k = 0 := by unfold psize; repeat rw [if_neg (by omega)]
    rw [e]
    clear e
    by_cases h1 : k < 0
    · go_enter Try.func25, Try.ntmps25
      go_wp2_with (go_at_call 47; refine (sizes_any _).mono ?_; rintro e w1 ⟨rfl, hb⟩)
      go_ret
      exact ⟨rfl, hb.alloc hb.size _⟩
    · have h2 : 6 ≤ k := by omega
      clear h
      go_enter Try.func25, Try.ntmps25
      go_wp2_with (go_at_call 47; refine (sizes_any _).mono ?_; rintro e w1 ⟨rfl, hb⟩)
      go_ret
      exact ⟨rfl, hb.alloc hb.size _⟩

theorem refSize_any (k : Int) (w : World) :
    Calls Try.prog 33 #[.int .i64 k] w fun e w' => e = .returned (.int .i64 (psize k)) ∧ w = w' := by
  by_cases h : k = 2 ∨ k = 3 ∨ k = 4 ∨ k = 5
  · rcases h with rfl | rfl | rfl | rfl
    all_goals
      go_enter Try.func33, Try.ntmps33
      go_wp2
      go_ret
      exact ⟨rfl, rfl⟩
  · have e : psize k = 0 := by unfold psize; repeat rw [if_neg (by omega)]
    rw [e]
    clear e
    have h2 : (k == 2) = false := by simp; omega
    have h3 : (k == 3) = false := by simp; omega
    have h4 : (k == 4) = false := by simp; omega
    have h5 : (k == 5) = false := by simp; omega
    clear h
    go_enter Try.func33, Try.ntmps33
    go_wp2
    go_ret
    exact ⟨rfl, rfl⟩

theorem five_any (word sh : Nat) (w : World) (h1 : word < 65536) (h2 : sh ≤ 10) :
    Calls Try.prog 54 #[.int .i64 word, .int .i64 sh] w fun e w' => e = .returned (.int .u8 (sround ((word / 2 ^ sh % 32 : Nat) : Int) 31)) ∧ w = w' := by
  have e1 : bits .and .i64 ((word : Int) / 2 ^ sh) 31 = ((word / 2 ^ sh % 32 : Nat) : Int) := by
    have e : ((word : Int) / 2 ^ sh) = ((word / 2 ^ sh : Nat) : Int) := by simp
    have hle : word / 2 ^ sh ≤ word := Nat.div_le_self _ _
    rw [e, and31 _ (by omega)]
  have hlt : word / 2 ^ sh % 32 < 32 := Nat.mod_lt _ (by omega)
  have e2 : smax ((word / 2 ^ sh % 32 : Nat) : Int) ((2 : Int) ^ 5 - 1) = sround ((word / 2 ^ sh % 32 : Nat) : Int) 31 := by
    unfold smax
    rw [if_pos (smay_iff.2 ⟨by decide, by decide, by omega, by omega⟩)]
    rfl
  have E1 := Lib.hid e1
  have E2 := Lib.hid e2
  clear e1 e2
  go_enter Try.func54, Try.ntmps54
  go_wp2_with fail
  rw [E1.out]
  refine (scaleBits_yes _ 5 _ (by omega) (by omega)).mono ?_
  rintro e w' ⟨rfl, rfl⟩
  rw [E2.out]
  go_wp2_with fail
  go_ret
  exact ⟨rfl, rfl⟩

/-- the sixteen bits of an entry of kind Two -/
def pword (s : ByteArray) : Nat := (s.data.toList.getD 0 0).toNat + 256 * (s.data.toList.getD 1 0).toNat

/-- a channel of an entry of kind Two -/
def pcol (s : ByteArray) (sh : Nat) : Int := sround ((pword s / 2 ^ sh % 32 : Nat) : Int) 31
theorem pcol_range (s : ByteArray) (sh : Nat) : 0 ≤ pcol s sh ∧ pcol s sh ≤ 255 := sround_range (by omega) (by omega) (by omega)
theorem five_col (s : ByteArray) (sh : Nat) (w : World) (h1 : pword s < 65536) (h2 : sh ≤ 10) :
    Calls Try.prog 54 #[.int .i64 (pword s : Nat), .int .i64 sh] w fun e w' => e = .returned (.int .u8 (pcol s sh)) ∧ w = w' := five_any _ _ _ h1 h2

theorem entry_none (s : ByteArray) (k : Int) (w : World) (hs : s.size ≤ 1073741824) (h : psize k = 0 ∨ (s.size : Int) < psize k) :
    Calls Try.prog 38 #[.string s, .int .i64 k] w fun e w' => e = .returned (.tuple #[.agg #[.int .u8 0, .int .u8 0, .int .u8 0, .int .u8 0], .bool false]) ∧ Below w.heap.size w w' := by
  cases h0 : (psize k == 0)
  · have h1 : (s.size : Int) < psize k := by
      have : ¬ psize k = 0 := by simpa using h0
      omega
    clear h
    go_enter Try.func38, Try.ntmps38
    go_wp2_with (go_at_call 25; refine (size_any _ _).mono ?_; rintro e w1 ⟨rfl, hb⟩; obtain ⟨hc, hf⟩ := bcell hb)
    refine bodyPost_ret (v := .tuple #[.agg #[.int .u8 0, .int .u8 0, .int .u8 0, .int .u8 0], .bool false]) (by simp [results, Try.results38, go_sem, hc]) rfl ⟨rfl, ?_⟩
    exact below_set4 (below_box hb) (Nat.le_refl _)
  · clear h
    go_enter Try.func38, Try.ntmps38
    go_wp2_with (go_at_call 25; refine (size_any _ _).mono ?_; rintro e w1 ⟨rfl, hb⟩; obtain ⟨hc, hf⟩ := bcell hb)
    refine bodyPost_ret (v := .tuple #[.agg #[.int .u8 0, .int .u8 0, .int .u8 0, .int .u8 0], .bool false]) (by simp [results, Try.results38, go_sem, hc]) rfl ⟨rfl, ?_⟩
    exact below_set4 (below_box hb) (Nat.le_refl _)

set_option maxHeartbeats 1000000 in
theorem entry_two (s : ByteArray) (w : World) (h : 2 ≤ s.size) (hs : s.size ≤ 1073741824) :
    Calls Try.prog 38 #[.string s, .int .i64 2] w fun e w' => e = .returned (.tuple #[.agg #[.int .u8 (pcol s 10), .int .u8 (pcol s 5), .int .u8 (pcol s 0), .int .u8 255], .bool true]) ∧ Below w.heap.size w w' := by
  have n0 : 0 < s.size := by omega
  have n1 : 1 < s.size := by omega
  have i1 : (1 : Int) < (s.size : Int) := by omega
  have i2 : (2 : Int) ≤ (s.size : Int) := by omega
  have b0 := UInt8.toNat_lt s[0]
  have b1 := UInt8.toNat_lt s[1]
  have hp : pword s = s[0].toNat + 256 * s[1].toNat := by
    unfold pword
    rw [List.getD_eq_getElem?_getD, List.getD_eq_getElem?_getD, get_list n0, get_list n1]
    rfl
  have hlt : pword s < 65536 := by omega
  have hw : bits .or .i64 (wrap64 (s[0].toNat : Int)) (wrap64 (wrap64 (s[1].toNat : Int) * 256)) = ((pword s : Nat) : Int) := by
    rw [wrap64_id _ (by omega) (by omega), wrap64_id (s[1].toNat : Int) (by omega) (by omega), wrap64_id _ (by omega) (by omega), or8 _ _ b0 b1, hp]
  have HW := Lib.hid hw
  have e2 := Lib.hid (show psize 2 = 2 from rfl)
  clear hw hp b0 b1
  go_enter Try.func38, Try.ntmps38
  go_wp2_with fail
  refine (size_any _ _).mono ?_
  rintro e w1 ⟨rfl, hb⟩
  obtain ⟨hc, hf⟩ := bcell hb
  rw [e2.out]
  go_wp2_with fail
  go_quiet (fail)
  go_wp2_with fail
  rw [HW.out]
  refine (five_col s 10 _ hlt (by omega)).mono ?_
  rintro e w' ⟨rfl, rfl⟩
  go_wp2_with fail
  refine (five_col s 5 _ hlt (by omega)).mono ?_
  rintro e w' ⟨rfl, rfl⟩
  go_wp2_with fail
  refine (five_col s 0 _ hlt (by omega)).mono ?_
  rintro e w' ⟨rfl, rfl⟩
  go_wp2_with fail
  exact bodyPost_ret (v := .tuple #[.agg #[.int .u8 (pcol s 10), .int .u8 (pcol s 5), .int .u8 (pcol s 0), .int .u8 255], .bool true]) (by simp [results, Try.results38, go_sem, hc]) rfl ⟨rfl, below_set4 (below_drewN (below_box hb) _) (Nat.le_refl _)⟩

set_option maxHeartbeats 1000000 in
theorem entry_three (s : ByteArray) (k : Int) (w : World) (hk : k = 3 ∨ k = 4) (h : k ≤ s.size) (hs : s.size ≤ 1073741824) (h0 : 0 < s.size) (h1 : 1 < s.size) (h2 : 2 < s.size) :
    Calls Try.prog 38 #[.string s, .int .i64 k] w fun e w' => e = .returned (.tuple #[.agg #[.int .u8 (s[2].toNat : Int), .int .u8 (s[1].toNat : Int), .int .u8 (s[0].toNat : Int), .int .u8 255], .bool true]) ∧ Below w.heap.size w w' := by
  have i1 : (1 : Int) < (s.size : Int) := by omega
  have i2 : (2 : Int) < (s.size : Int) := by omega
  rcases hk with rfl | rfl
  · have e2 := Lib.hid (show psize 3 = 3 from rfl)
    go_enter Try.func38, Try.ntmps38
    go_wp2_with fail
    refine (size_any _ _).mono ?_
    rintro e w1 ⟨rfl, hb⟩
    obtain ⟨hc, hf⟩ := bcell hb
    have hz := below_box_size hb
    rw [e2.out]
    go_wp2_with fail
    go_region
    go_wp2_with fail
    exact bodyPost_ret (v := .tuple #[.agg #[.int .u8 (s[2].toNat : Int), .int .u8 (s[1].toNat : Int), .int .u8 (s[0].toNat : Int), .int .u8 255], .bool true]) (by simp [results, Try.results38, go_sem, hc]) rfl ⟨rfl, (below_set4 (below_box hb) (Nat.le_refl _)).drew⟩
  · have e2 := Lib.hid (show psize 4 = 4 from rfl)
    go_enter Try.func38, Try.ntmps38
    go_wp2_with fail
    refine (size_any _ _).mono ?_
    rintro e w1 ⟨rfl, hb⟩
    obtain ⟨hc, hf⟩ := bcell hb
    have hz := below_box_size hb
    rw [e2.out]
    go_wp2_with fail
    go_region
    go_wp2_with fail
    exact bodyPost_ret (v := .tuple #[.agg #[.int .u8 (s[2].toNat : Int), .int .u8 (s[1].toNat : Int), .int .u8 (s[0].toNat : Int), .int .u8 255], .bool true]) (by simp [results, Try.results38, go_sem, hc]) rfl ⟨rfl, (below_set4 (below_box hb) (Nat.le_refl _)).drew⟩

set_option maxHeartbeats 1000000 in
theorem entry_full (s : ByteArray) (w : World) (h : 4 ≤ s.size) (hs : s.size ≤ 1073741824) :
    Calls Try.prog 38 #[.string s, .int .i64 5] w fun e w' => e = .returned (.tuple #[.agg #[.int .u8 (s[2].toNat : Int), .int .u8 (s[1].toNat : Int), .int .u8 (s[0].toNat : Int), .int .u8 (s[3].toNat : Int)], .bool true]) ∧ Below w.heap.size w w' := by
  have i1 : (1 : Int) < (s.size : Int) := by omega
  have i2 : (2 : Int) < (s.size : Int) := by omega
  have i3 : (3 : Int) < (s.size : Int) := by omega
  have h0 : 0 < s.size := by omega
  have h1 : 1 < s.size := by omega
  have h2 : 2 < s.size := by omega
  have h3 : 3 < s.size := by omega
  have i4 : (4 : Int) ≤ (s.size : Int) := by omega
  have e2 := Lib.hid (show psize 5 = 4 from rfl)
  go_enter Try.func38, Try.ntmps38
  go_wp2_with fail
  refine (size_any _ _).mono ?_
  rintro e w1 ⟨rfl, hb⟩
  obtain ⟨hc, hf⟩ := bcell hb
  have hz := below_box_size hb
  rw [e2.out]
  go_wp2_with fail
  go_region
  go_wp2_with fail
  exact bodyPost_ret (v := .tuple #[.agg #[.int .u8 (s[2].toNat : Int), .int .u8 (s[1].toNat : Int), .int .u8 (s[0].toNat : Int), .int .u8 (s[3].toNat : Int)], .bool true]) (by simp [results, Try.results38, go_sem, hc]) rfl ⟨rfl, (below_set4 (below_box hb) (Nat.le_refl _)).drew⟩
end Go.Proofs.Ytccldalagbfmhaa
