/- The reference's reader of tokens: Digit. -/
import Derived.Test.YtgmgcfjllijhgaaGreatVTokNum
namespace Go.Proofs.YtgmgcfjllijhgaaGreat
open Go.RowKit
set_option linter.unusedVariables false

set_option maxRecDepth 100000 in
theorem refDigit_any (s : ByteArray) (a : Nat) (w : World) (ha : a ≤ s.size) (hs : s.size ≤ 1099511627776) :
  Calls Tryz.prog 31 #[.string s, .int .i64 (a : Int)] w fun e w' => e = .returned (gotV (digitAt (nats s) a)) ∧ Below w.heap.size w w' := by
 have hlen := nats_len s
 have hle := overN_le false ((nats s).drop a)
 rw [List.length_drop, hlen] at hle
 have HO := Lib.hid (fun w => refOver_any s a w ha hs)
 unfold digitAt
 generalize a + overN false ((nats s).drop a) = f at HO ⊢
 rw [hlen]
 by_cases hlt : s.size ≤ f
 ·have i1 : (s.size : Int) ≤ (f : Int) := by omega
  simp only [if_pos hlt]
  go_enter Tryz.func31, Tryz.ntmps31
  go_wp2_with (go_at_call 54; refine (HO.out _).mono ?_; rintro e w1 ⟨rfl, rfl⟩)
  all_goals exact bodyPost_ret (v := gotV ⟨0, 0, 0, 1, s.size⟩) (by simp [results, Tryz.results31, go_sem, gotV]) rfl ⟨rfl, (Below.refl _ _).alloc (Nat.le_refl _) _⟩
 ·have i1 : ¬ (s.size : Int) ≤ (f : Int) := by omega
  have hf : f < s.size := by omega
  have hb := bat_eq hf
  simp only [if_neg hlt]
  by_cases hd : bat s f = 48 ∨ bat s f = 49
  ·rw [if_pos (show (nats s).getD f 0 = 48 ∨ (nats s).getD f 0 = 49 from hd)]
   have hv : (nats s).getD f 0 = bat s f := rfl
   rw [hv]
   rcases hd with h8 | h8
   ·have i8 : ((s[f].toNat : Nat) : Int) = 48 := by omega
    rw [h8]
    go_enter Tryz.func31, Tryz.ntmps31
    go_wp2_with (go_at_call 54; refine (HO.out _).mono ?_; rintro e w1 ⟨rfl, rfl⟩)
    all_goals exact bodyPost_ret (v := gotV ⟨48 - 48, f, f + 1, 0, 0⟩) (by simp [results, Tryz.results31, go_sem, gotV]) rfl ⟨rfl, (Below.refl _ _).alloc (Nat.le_refl _) _⟩
   ·have i8 : ¬ ((s[f].toNat : Nat) : Int) = 48 := by omega
    have i9 : ((s[f].toNat : Nat) : Int) = 49 := by omega
    have k8 : (((s[f].toNat : Nat) : Int) != 48) = true := bne_iff_ne.2 i8
    have k9 : (((s[f].toNat : Nat) : Int) != 49) = false := by rw [i9]; rfl
    rw [h8]
    go_enter Tryz.func31, Tryz.ntmps31
    go_wp2_with (go_at_call 54; refine (HO.out _).mono ?_; rintro e w1 ⟨rfl, rfl⟩)
    all_goals exact bodyPost_ret (v := gotV ⟨49 - 48, f, f + 1, 0, 0⟩) (by simp [results, Tryz.results31, go_sem, gotV]) rfl ⟨rfl, (Below.refl _ _).alloc (Nat.le_refl _) _⟩
  ·rw [if_neg (show ¬ ((nats s).getD f 0 = 48 ∨ (nats s).getD f 0 = 49) from hd)]
   have i8 : ¬ ((s[f].toNat : Nat) : Int) = 48 := by omega
   have i9 : ¬ ((s[f].toNat : Nat) : Int) = 49 := by omega
   have k8 : (((s[f].toNat : Nat) : Int) != 48) = true := bne_iff_ne.2 i8
   have k9 : (((s[f].toNat : Nat) : Int) != 49) = true := bne_iff_ne.2 i9
   go_enter Tryz.func31, Tryz.ntmps31
   go_wp2_with (go_at_call 54; refine (HO.out _).mono ?_; rintro e w1 ⟨rfl, rfl⟩)
   all_goals exact bodyPost_ret (v := gotV ⟨0, 0, 0, 2, f⟩) (by simp [results, Tryz.results31, go_sem, gotV]) rfl ⟨rfl, (Below.refl _ _).alloc (Nat.le_refl _) _⟩

end Go.Proofs.YtgmgcfjllijhgaaGreat
