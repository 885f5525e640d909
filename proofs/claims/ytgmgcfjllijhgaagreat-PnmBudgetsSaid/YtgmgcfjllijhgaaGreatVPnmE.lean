/- Plain arithmetic on samples: the nearest of 256 by trying them all is the rounded quotient; monotone, onto. The contracts of scale's functions and of the reference of chapter 8: what each returns, for every argument. The walks of the laws of chapter 8 that keep no state: ScaleSamples, ScaleRises, ScaleLeast return true. Plain: what the pixels of a PNM file ask of a budget, and what they tell. -/
import Derived.Test.YtgmgcfjllijhgaaGreatProg
import Derived.Test.YtgmgcfjllijhgaaGreatVWords
import Derived.WalkSpells
import Derived.WalkLawsBesides
import Derived.Test.YtgmgcfjllijhgaaGreatVPnmD
import Derived.Test.YtgmgcfjllijhgaaGreatVWays
namespace Go.Proofs.YtgmgcfjllijhgaaGreat
set_option linter.unusedVariables false

def smay (v m : Int) : Bool := decide (1 ≤ m ∧ m ≤ 4294967295 ∧ 0 ≤ v ∧ v ≤ m)
def sround (v m : Int) : Int := (2 * v * 255 + m) / (2 * m)
def smax (v m : Int) : Int := if smay v m = true then sround v m else 0
def rfar (v m x : Int) : Int := if v * 255 - x * m < 0 then -(v * 255 - x * m) else v * 255 - x * m
def rbest (v m : Int) : Nat → Int
 | 0 => 0
 | k + 1 => if rfar v m ((k : Int) + 1) ≤ rfar v m (rbest v m k) then (k : Int) + 1 else rbest v m k

theorem smay_iff {v m : Int} : smay v m = true ↔ 1 ≤ m ∧ m ≤ 4294967295 ∧ 0 ≤ v ∧ v ≤ m := by simp [smay]

/-- what the rounded quotient is: the bounds of its product -/
theorem sround_spec {v m : Int} (h1 : 1 ≤ m) : 2 * (sround v m * m) ≤ 2 * v * 255 + m ∧ 2 * v * 255 + m < 2 * (sround v m * m) + 2 * m := by
 unfold sround
 have hm : 0 < 2 * m := by omega
 have a := Int.mul_ediv_add_emod (2 * v * 255 + m) (2 * m)
 have b := Int.emod_nonneg (2 * v * 255 + m) (show 2 * m ≠ 0 by omega)
 have c := Int.emod_lt_of_pos (2 * v * 255 + m) hm
 have e : 2 * m * ((2 * v * 255 + m) / (2 * m)) = 2 * ((2 * v * 255 + m) / (2 * m) * m) := by
  rw [Int.mul_assoc, Int.mul_comm m]
 rw [e] at a
 omega

theorem sround_range {v m : Int} (h1 : 1 ≤ m) (h3 : 0 ≤ v) (h4 : v ≤ m) : 0 ≤ sround v m ∧ sround v m ≤ 255 := by
 obtain ⟨c, d⟩ := sround_spec (v := v) h1
 constructor
 ·rcases Int.lt_or_le (sround v m) 0 with h | h
  ·have : sround v m * m ≤ (-1) * m := Int.mul_le_mul_of_nonneg_right (by omega) (by omega)
   omega
  ·exact h
 ·rcases Int.lt_or_le 255 (sround v m) with h | h
  ·have : 256 * m ≤ sround v m * m := Int.mul_le_mul_of_nonneg_right (by omega) (by omega)
   omega
  ·exact h

theorem rfar_down {v m k : Int} (h1 : 1 ≤ m) (h : k + 1 ≤ sround v m) : rfar v m (k + 1) ≤ rfar v m k := by
 obtain ⟨c, d⟩ := sround_spec (v := v) h1
 have : (k + 1) * m ≤ sround v m * m := Int.mul_le_mul_of_nonneg_right h (by omega)
 unfold rfar
 rw [Int.add_mul] at *
 split <;> split <;> omega

theorem rfar_up {v m k : Int} (h1 : 1 ≤ m) (h : sround v m ≤ k) : ¬ rfar v m (k + 1) ≤ rfar v m (sround v m) := by
 obtain ⟨c, d⟩ := sround_spec (v := v) h1
 have : (sround v m + 1) * m ≤ (k + 1) * m := Int.mul_le_mul_of_nonneg_right (by omega) (by omega)
 unfold rfar
 rw [Int.add_mul] at *
 rw [Int.add_mul] at *
 split <;> split <;> omega

theorem rbest_eq {v m : Int} (h1 : 1 ≤ m) (h3 : 0 ≤ v) (h4 : v ≤ m) (k : Nat) : rbest v m k = if (k : Int) ≤ sround v m then (k : Int) else sround v m := by
 induction k with
 | zero => simp [rbest, (sround_range h1 h3 h4).1]
 | succ k ih =>
  simp only [rbest, ih]
  by_cases hk : (k : Int) + 1 ≤ sround v m
  ·rw [if_pos (show (k : Int) ≤ sround v m by omega), if_pos (rfar_down h1 hk), if_pos (by omega)]
   omega
  ·by_cases hk' : (k : Int) ≤ sround v m
   ·obtain e : (k : Int) = sround v m := by omega
    rw [if_pos hk', e, if_neg (rfar_up h1 (Int.le_refl _)), if_neg (by omega)]
   ·rw [if_neg hk', if_neg (rfar_up h1 (by omega)), if_neg (by omega)]

theorem rbest_all {v m : Int} (h1 : 1 ≤ m) (h3 : 0 ≤ v) (h4 : v ≤ m) : rbest v m 255 = sround v m := by
 rw [rbest_eq h1 h3 h4]
 have := sround_range h1 h3 h4
 split
 ·have h : ((255 : Nat) : Int) = 255 := rfl
  omega
 ·rfl

theorem rbest_range (v m : Int) (k : Nat) : 0 ≤ rbest v m k ∧ rbest v m k ≤ k := by
 induction k with
 | zero => simp [rbest]
 | succ k ih =>
  simp only [rbest]
  split <;> omega

end Go.Proofs.YtgmgcfjllijhgaaGreat
namespace Go.Proofs.YtgmgcfjllijhgaaGreat
set_option linter.unusedVariables false
open Go.RowKit

theorem scaleMax_no (v m : Int) (w : World) (h : smay v m = false) :
  Calls Tryz.prog 128 #[.int .i64 v, .int .i64 m] w fun e w' => e = .returned (.tuple #[.int .u8 0, .bool false]) ∧ w = w' := by
 have h' : ¬ (1 ≤ m ∧ m ≤ 4294967295 ∧ 0 ≤ v ∧ v ≤ m) := by simpa [smay] using h
 clear h
 by_cases h1 : m < 1
 ·go_enter Tryz.func128, Tryz.ntmps128
  go_wp2
  go_ret2
  exact ⟨rfl, rfl⟩
 by_cases h2 : 4294967295 < m
 ·go_enter Tryz.func128, Tryz.ntmps128
  go_wp2
  go_ret2
  exact ⟨rfl, rfl⟩
 by_cases h3 : v < 0
 ·go_enter Tryz.func128, Tryz.ntmps128
  go_wp2
  go_ret2
  exact ⟨rfl, rfl⟩
 have h4 : m < v := by omega
 go_enter Tryz.func128, Tryz.ntmps128
 go_wp2
 go_ret2
 exact ⟨rfl, rfl⟩

theorem scaleMax_yes (v m : Int) (w : World) (h : smay v m = true) :
  Calls Tryz.prog 128 #[.int .i64 v, .int .i64 m] w fun e w' => e = .returned (.tuple #[.int .u8 (sround v m), .bool true]) ∧ w = w' := by
 obtain ⟨h1, h2, h3, h4⟩ := smay_iff.1 h
 have hr := sround_range h1 h3 h4
 clear h
 go_enter Tryz.func128, Tryz.ntmps128
 go_wp2
 go_ret2
 refine ⟨ret2 (vint ?_) rfl, rfl⟩
 show sround v m % 256 = _
 omega

/-- both ways in one -/
theorem scaleMax_any (v m : Int) (w : World) :
  Calls Tryz.prog 128 #[.int .i64 v, .int .i64 m] w fun e w' => e = .returned (.tuple #[.int .u8 (smax v m), .bool (smay v m)]) ∧ w = w' := by
 cases h : smay v m
 ·rw [show smax v m = 0 by simp [smax, h]]; exact scaleMax_no v m w h
 ·rw [show smax v m = sround v m by simp [smax, h]]; exact scaleMax_yes v m w h

theorem refFar_any (v m x : Int) (w : World) (h2 : m ≤ 4294967295) (h3 : 0 ≤ v) (h4 : v ≤ m) (h5 : 0 ≤ x) (h6 : x ≤ 255) :
  Calls Tryz.prog 55 #[.int .i64 v, .int .i64 m, .int .i64 x] w fun e w' => e = .returned (.int .i64 (rfar v m x)) ∧ w = w' := by
 have hm : x * m ≤ 255 * 4294967295 := Int.mul_le_mul h6 h2 (by omega) (by omega)
 have hm0 : 0 ≤ x * m := Int.mul_nonneg h5 (by omega)
 by_cases hd : v * 255 - x * m < 0
 ·have e : rfar v m x = -(v * 255 - x * m) := if_pos hd
  rw [e]
  clear e
  go_enter Tryz.func55, Tryz.ntmps55
  go_wp2
  go_ret
  exact ⟨ret1 (vint (by omega)), rfl⟩
 ·have e : rfar v m x = (v * 255 - x * m) := if_neg hd
  rw [e]
  clear e
  go_enter Tryz.func55, Tryz.ntmps55
  go_wp2
  go_ret
  exact ⟨ret1 (vint (by omega)), rfl⟩

set_option maxRecDepth 100000 in
theorem refMax_any (v m : Int) (w : World) (h : smay v m = true) :
  Calls Tryz.prog 34 #[.int .i64 v, .int .i64 m] w fun e w' => e = .returned (.int .i64 (sround v m)) ∧ w = w' := by
 obtain ⟨h1, h2, h3, h4⟩ := smay_iff.1 h
 have ha := Lib.hid (rbest_all h1 h3 h4)
 clear h h1
 go_enter Tryz.func34, Tryz.ntmps34
 go_wp2
 go_loop [5, 6] (fun b x => ∃ k : Nat, k ≤ 255 ∧ x = .int .i64 ((k : Int) + 1) ∧ b = .int .i64 (rbest v m k)) (fun _ x => 256 - (intOf x).toNat)
 case atStart => exact ⟨0, by omega, rfl, rfl⟩
 case round =>
  obtain ⟨k, hk, rfl, rfl⟩ := hrel
  have hb := rbest_range v m k
  by_cases hlt : k < 255
  ·by_cases hc : rfar v m ((k : Int) + 1) ≤ rfar v m (rbest v m k)
   ·have e := Lib.hid (show rbest v m (k + 1) = (k : Int) + 1 by rw [rbest, if_pos hc])
    go_wp2_with (go_at_call 55; refine (refFar_any _ _ _ _ h2 h3 h4 (by omega) (by omega)).mono ?_; rintro e w' ⟨rfl, rfl⟩)
    go_round
    case rel => exact ⟨k + 1, by omega, by go_num, by rw [e.out]⟩
    case measure => simp [intOf]; omega
   ·have e := Lib.hid (show rbest v m (k + 1) = rbest v m k by rw [rbest, if_neg hc])
    go_wp2_with (go_at_call 55; refine (refFar_any _ _ _ _ h2 h3 h4 (by omega) (by omega)).mono ?_; rintro e w' ⟨rfl, rfl⟩)
    go_round
    case rel => exact ⟨k + 1, by omega, by go_num, by rw [e.out]⟩
    case measure => simp [intOf]; omega
  ·obtain rfl : k = 255 := by omega
   go_wp2
   go_ret
   exact ⟨ret1 (vint ha.out), rfl⟩

theorem refPower_any (n : Nat) (w : World) (hn : n ≤ 32) :
  Calls Tryz.prog 44 #[.int .i64 n] w fun e w' => e = .returned (.int .i64 ((2 ^ n : Nat) : Int)) ∧ w = w' := by
 go_enter Tryz.func44, Tryz.ntmps44
 go_wp2
 go_loop [3, 4] (fun v i => ∃ k : Nat, k ≤ n ∧ i = .int .i64 k ∧ ∃ p : Nat, p = 2 ^ k ∧ v = .int .i64 p) (fun _ i => n - (intOf i).toNat)
 case atStart => exact ⟨0, by omega, rfl, 1, rfl, rfl⟩
 case round =>
  obtain ⟨k, hk, rfl, p, hp, rfl⟩ := hrel
  have hp' := Lib.hid hp
  have hb : p ≤ 2 ^ 32 := by rw [hp]; exact Nat.pow_le_pow_right (by omega) (by omega)
  have hb' : p ≤ 4294967296 := hb
  clear hp hb
  by_cases hlt : k < n
  ·go_wp2
   go_round
   case rel => exact ⟨k + 1, by omega, by go_num, p * 2, by rw [Nat.pow_succ, hp'.out], vint (by omega)⟩
   case measure => simp [intOf]; omega
  ·obtain rfl : k = n := by omega
   go_wp2
   go_ret
   exact ⟨ret1 (vint (by rw [hp'.out]; simp)), rfl⟩

end Go.Proofs.YtgmgcfjllijhgaaGreat
namespace Go.Proofs.YtgmgcfjllijhgaaGreat
set_option linter.unusedVariables false
open Go.RowKit

end Go.Proofs.YtgmgcfjllijhgaaGreat
namespace Go.Proofs.YtgmgcfjllijhgaaGreat
set_option linter.unusedVariables false

/-- a sample as eight bits -/
def smp8 (v M : Nat) : UInt8 := UInt8.ofNat (sround (v : Int) (M : Int)).toNat
def grayQ (b : UInt8) : Qc := ⟨b, b, b, 255⟩
def smpD (s : ByteArray) (M a z : Nat) (k : UInt8 × Nat → Dec) : Dec := numD s a z fun r => if M < r.1 then badD z 2 r.2.1 else k (smp8 r.1 M, r.2.2)
def bitD (s : ByteArray) (a z : Nat) (k : Qc × Nat → Dec) : Dec := digD s a z fun r => k (grayQ (UInt8.ofNat (255 * (1 - r.1))), r.2.2)
/-- a pixel as text -/
def tpixD (s : ByteArray) (K M z : Nat) (a : Nat) (k : Qc × Nat → Dec) : Dec :=
 if K = 1 then bitD s a z k else if K = 3 then (smpD s M a z fun r => smpD s M r.2 z fun g => smpD s M g.2 z fun b => k (⟨r.1, g.1, b.1, 255⟩, b.2)) else smpD s M a z fun r => k (grayQ r.1, r.2)
/-- a sample of q bytes -/
def rsmpD (s : ByteArray) (q M a z : Nat) (k : UInt8 × Nat → Dec) : Dec := .work 1 z a (if a + q ≤ s.size then (if M < beN s a q then badD z 2 a else k (smp8 (beN s a q) M, a + q)) else badD z 1 s.size)
def rpixD (s : ByteArray) (K q M z : Nat) (a : Nat) (k : Qc × Nat → Dec) : Dec :=
 if K = 6 then (rsmpD s q M a z fun r => rsmpD s q M r.2 z fun g => rsmpD s q M g.2 z fun b => k (⟨r.1, g.1, b.1, 255⟩, b.2)) else rsmpD s q M a z fun r => k (grayQ r.1, r.2)
/-- a bit of a byte, the highest is number 0 -/
def bitQ (b i : Nat) : Qc := grayQ (UInt8.ofNat (255 * (1 - b / 2 ^ (7 - i) % 2)))
/-- a pixel of a bit: column, place, the byte that was read last -/
def bpixD (s : ByteArray) (W z : Nat) (t : Nat × Nat × Nat) (k : Qc × Nat × Nat × Nat → Dec) : Dec :=
 if t.1 % 8 = 0 then byteD s t.2.1 z fun b => k (bitQ b 0, (if t.1 + 1 = W then 0 else t.1 + 1), t.2.1 + 1, b)
 else k (bitQ t.2.2 (t.1 % 8), (if t.1 + 1 = W then 0 else t.1 + 1), t.2.1, t.2.2)
/-- pixels, one behind the other, each laid into the raster -/
def pixsD {σ : Type} (W H z : Nat) (step : σ → (Qc × σ → Dec) → Dec) (pl : σ → Nat) : Nat → σ → List Qc → Dec
 | 0, _, L => .fin (.img W H (flat L))
 | m + 1, t, L => step t fun r => .work 1 z (pl r.2) (pixsD W H z step pl m r.2 (L ++ [r.1]))

section
variable {s : ByteArray} {a z M q K W : Nat}
section
variable {P : Dec → Prop} (hP : DP s z P)
include hP
theorem smpD_all {k : UInt8 × Nat → Dec} (ha : a ≤ s.size) (hk : ∀ v n, n ≤ s.size → P (k (v, n))) : P (smpD s M a z k) := by
 refine numD_all hP ha fun V f n e1 hn hf han => ?_
 by_cases h : M < V
 ·rw [if_pos h]; exact hP.bad _ _ (by decide) hf
 ·rw [if_neg h]; exact hk _ _ hn
theorem tpixD_all {k : Qc × Nat → Dec} (ha : a ≤ s.size) (hk : ∀ v n, n ≤ s.size → P (k (v, n))) : P (tpixD s K M z a k) := by
 unfold tpixD
 by_cases h1 : K = 1
 ·rw [if_pos h1]
  exact digD_all hP ha fun V f e1 hf _ _ => hk _ _ (by show f + 1 ≤ s.size; omega)
 ·rw [if_neg h1]
  by_cases h3 : K = 3
  ·rw [if_pos h3]
   exact smpD_all hP ha fun r n1 h1 => smpD_all hP h1 fun g n2 h2 => smpD_all hP h2 fun b n3 h3 => hk _ _ h3
  ·rw [if_neg h3]
   exact smpD_all hP ha fun r n1 h1 => hk _ _ h1
theorem rsmpD_all {k : UInt8 × Nat → Dec} (ha : a ≤ s.size) (hk : ∀ v n, n ≤ s.size → P (k (v, n))) : P (rsmpD s q M a z k) := by
 refine hP.work _ _ ha ?_
 by_cases h : a + q ≤ s.size
 ·rw [if_pos h]
  by_cases h2 : M < beN s a q
  ·rw [if_pos h2]; exact hP.bad _ _ (by decide) ha
  ·rw [if_neg h2]; exact hk _ _ h
 ·rw [if_neg h]; exact hP.bad _ _ (by decide) (Nat.le_refl _)
theorem rpixD_all {k : Qc × Nat → Dec} (ha : a ≤ s.size) (hk : ∀ v n, n ≤ s.size → P (k (v, n))) : P (rpixD s K q M z a k) := by
 unfold rpixD
 by_cases h3 : K = 6
 ·rw [if_pos h3]
  exact rsmpD_all hP ha fun r n1 h1 => rsmpD_all hP h1 fun g n2 h2 => rsmpD_all hP h2 fun b n3 h3 => hk _ _ h3
 ·rw [if_neg h3]
  exact rsmpD_all hP ha fun r n1 h1 => hk _ _ h1
theorem bpixD_all {t : Nat × Nat × Nat} {k : Qc × Nat × Nat × Nat → Dec} (ha : t.2.1 ≤ s.size) (hk : ∀ v t', t'.2.1 ≤ s.size → P (k (v, t'))) : P (bpixD s W z t k) := by
 unfold bpixD
 by_cases h : t.1 % 8 = 0
 ·rw [if_pos h]
  exact byteD_all hP ha fun h2 => hk _ _ h2
 ·rw [if_neg h]
  exact hk _ _ ha
theorem pixsD_all {σ : Type} {W H : Nat} {step : σ → (Qc × σ → Dec) → Dec} {pl : σ → Nat} (hs : ∀ t k, pl t ≤ s.size → (∀ v t', pl t' ≤ s.size → P (k (v, t'))) → P (step t k)) : ∀ (m : Nat) (t : σ) (L : List Qc), pl t ≤ s.size → (∀ L', L'.length = L.length + m → P (.fin (.img W H (flat L')))) → P (pixsD W H z step pl m t L)
 | 0, t, L, _, hf => hf L rfl
 | m + 1, t, L, ht, hf => hs t _ ht fun v t' h' => hP.work _ _ h' (pixsD_all hs m t' (L ++ [v]) h' fun L' hL => hf L' (by rw [hL, List.length_append, List.length_singleton]; omega))
end
/-! ### steps -/
theorem smpD_pot {T : Nat} {k : UInt8 × Nat → Dec} (ha : a ≤ s.size) (hT : s.size ≤ T) (hk : ∀ v n, n ≤ s.size → (k (v, n)).cost + n ≤ T) : (smpD s M a z k).cost + a ≤ T + 2 := by
 refine numD_pot ha hT fun V f n e1 hn han => ?_
 by_cases h : M < V
 ·simp only [if_pos h]
  show 0 + n ≤ T
  omega
 ·simp only [if_neg h]
  exact hk _ _ hn
theorem tpixD_pot {T : Nat} {k : Qc × Nat → Dec} (ha : a ≤ s.size) (hT : s.size ≤ T) (hk : ∀ v n, n ≤ s.size → (k (v, n)).cost + n ≤ T) : (tpixD s K M z a k).cost + a ≤ T + 6 := by
 unfold tpixD
 by_cases h1 : K = 1
 ·rw [if_pos h1]
  refine Nat.le_trans (digD_pot ha hT fun V f e1 hf _ => hk _ _ (by show f + 1 ≤ s.size; omega)) (by omega)
 ·rw [if_neg h1]
  by_cases h3 : K = 3
  ·rw [if_pos h3]
   exact smpD_pot (T := T + 4) ha (by omega) fun r n1 h1 => smpD_pot (T := T + 2) h1 (by omega) fun g n2 h2 => smpD_pot (T := T) h2 hT fun b n3 h3 => hk _ _ h3
  ·rw [if_neg h3]
   exact Nat.le_trans (smpD_pot (T := T) ha hT fun r n1 h1 => hk _ _ h1) (by omega)
theorem rsmpD_cost {C : Nat} {k : UInt8 × Nat → Dec} (hk : ∀ v n, n ≤ s.size → (k (v, n)).cost ≤ C) : (rsmpD s q M a z k).cost ≤ C + 1 := by
 show (1 : Int).toNat + (if a + q ≤ s.size then (if M < beN s a q then badD z 2 a else k (smp8 (beN s a q) M, a + q)) else badD z 1 s.size).cost ≤ C + 1
 have e1 : (1 : Int).toNat = 1 := rfl
 rw [e1]
 by_cases h : a + q ≤ s.size
 ·rw [if_pos h]
  by_cases h2 : M < beN s a q
  ·rw [if_pos h2]
   show 1 + 0 ≤ C + 1
   omega
  ·rw [if_neg h2]
   have := hk (smp8 (beN s a q) M) (a + q) h
   omega
 ·rw [if_neg h]
  show 1 + 0 ≤ C + 1
  omega
theorem rpixD_cost {C : Nat} {k : Qc × Nat → Dec} (hk : ∀ v n, n ≤ s.size → (k (v, n)).cost ≤ C) : (rpixD s K q M z a k).cost ≤ C + 3 := by
 unfold rpixD
 by_cases h3 : K = 6
 ·rw [if_pos h3]
  exact rsmpD_cost (C := C + 2) fun r n1 h1 => rsmpD_cost (C := C + 1) fun g n2 h2 => rsmpD_cost (C := C) fun b n3 h3 => hk _ _ h3
 ·rw [if_neg h3]
  exact Nat.le_trans (rsmpD_cost (C := C) fun r n1 h1 => hk _ _ h1) (by omega)
theorem bpixD_cost {C : Nat} {t : Nat × Nat × Nat} {k : Qc × Nat × Nat × Nat → Dec} (hk : ∀ v t', t'.2.1 ≤ s.size ∨ t'.2.1 = t.2.1 → (k (v, t')).cost ≤ C) : (bpixD s W z t k).cost ≤ C + 1 := by
 unfold bpixD
 by_cases h : t.1 % 8 = 0
 ·rw [if_pos h]
  show (1 : Int).toNat + (if t.2.1 < s.size then _ else badD z 1 s.size).cost ≤ C + 1
  have e1 : (1 : Int).toNat = 1 := rfl
  rw [e1]
  by_cases h2 : t.2.1 < s.size
  ·rw [if_pos h2]
   have := hk (bitQ (bat s t.2.1) 0) ((if t.1 + 1 = W then 0 else t.1 + 1), t.2.1 + 1, bat s t.2.1) (.inl h2)
   rw [Nat.add_comm]
   exact Nat.add_le_add_right this 1
  ·rw [if_neg h2]
   show 1 + 0 ≤ C + 1
   omega
 ·rw [if_neg h]
  exact Nat.le_trans (hk _ _ (.inr rfl)) (by omega)
theorem pixsD_cost {σ : Type} {W H z c : Nat} {step : σ → (Qc × σ → Dec) → Dec} {pl : σ → Nat} (hs : ∀ t k C, (∀ v t', (k (v, t')).cost ≤ C) → (step t k).cost ≤ C + c) : ∀ (m : Nat) (t : σ) (L : List Qc), (pixsD W H z step pl m t L).cost ≤ m * (c + 1)
 | 0, t, L => by
  show 0 ≤ 0 * (c + 1)
  omega
 | m + 1, t, L => by
  have h := hs t (fun r => .work 1 z (pl r.2) (pixsD W H z step pl m r.2 (L ++ [r.1]))) (m * (c + 1) + 1) fun v t' => by
   show (1 : Int).toNat + (pixsD W H z step pl m t' (L ++ [v])).cost ≤ _
   have e1 : (1 : Int).toNat = 1 := rfl
   rw [e1]
   have := pixsD_cost (W := W) (H := H) (z := z) (pl := pl) hs m t' (L ++ [v])
   omega
  show (step t _).cost ≤ _
  refine Nat.le_trans h ?_
  rw [Nat.add_mul]
  omega
theorem pixsD_pot {σ : Type} {W H z c T : Nat} {step : σ → (Qc × σ → Dec) → Dec} {pl : σ → Nat} (hT : s.size ≤ T) (hs : ∀ t k T', pl t ≤ s.size → s.size ≤ T' → (∀ v t', pl t' ≤ s.size → (k (v, t')).cost + pl t' ≤ T') → (step t k).cost + pl t ≤ T' + c) : ∀ (m : Nat) (t : σ) (L : List Qc), pl t ≤ s.size → (pixsD W H z step pl m t L).cost + pl t ≤ T + m * (c + 1)
 | 0, t, L, ht => by
  show 0 + pl t ≤ T + 0 * (c + 1)
  omega
 | m + 1, t, L, ht => by
  have h := hs t (fun r => .work 1 z (pl r.2) (pixsD W H z step pl m r.2 (L ++ [r.1]))) (T + m * (c + 1) + 1) ht (by omega) fun v t' ht' => by
   show (1 : Int).toNat + (pixsD W H z step pl m t' (L ++ [v])).cost + pl t' ≤ _
   have e1 : (1 : Int).toNat = 1 := rfl
   rw [e1]
   have := pixsD_pot (W := W) (H := H) (z := z) hT hs m t' (L ++ [v]) ht'
   omega
  show (step t _).cost + pl t ≤ _
  refine Nat.le_trans h ?_
  rw [Nat.add_mul]
  omega
end
/-! ### the whole -/
/-- the pixels behind a head -/
def bodyD (s : ByteArray) (h : HeadR) (z : Nat) : Dec :=
 if h.K ≤ 3 then pixsD h.W h.H z (tpixD s h.K h.M z) (fun n => n) (h.W * h.H) h.At []
 else if h.K = 4 then pixsD h.W h.H z (bpixD s h.W z) (fun t => t.2.1) (h.W * h.H) (0, h.At, 0) []
 else pixsD h.W h.H z (rpixD s h.K (if 255 < h.M then 2 else 1) h.M z) (fun n => n) (h.W * h.H) h.At []
def pnmDec (s : ByteArray) : Dec := headD s 0 fun h => .sides h.W h.H h.At (.take (4 * (h.W * h.H)) h.At (bodyD s h (4 * (h.W * h.H))))
theorem bodyD_all {s : ByteArray} {h : HeadR} {z : Nat} {P : Dec → Prop} (hP : DP s z P) (ha : h.At ≤ s.size) (hf : ∀ L : List Qc, L.length = h.W * h.H → P (.fin (.img h.W h.H (flat L)))) : P (bodyD s h z) := by
 have hf' : ∀ L' : List Qc, L'.length = ([] : List Qc).length + h.W * h.H → P (.fin (.img h.W h.H (flat L'))) := fun L' hL => hf L' (by rw [hL]; simp)
 unfold bodyD
 by_cases h3 : h.K ≤ 3
 ·rw [if_pos h3]
  exact pixsD_all hP (pl := fun n => n) (fun t k ht hk => tpixD_all hP ht hk) _ _ _ ha hf'
 ·rw [if_neg h3]
  by_cases h4 : h.K = 4
  ·rw [if_pos h4]
   exact pixsD_all hP (pl := fun t : Nat × Nat × Nat => t.2.1) (fun t k ht hk => bpixD_all hP ht hk) _ _ _ ha hf'
  ·rw [if_neg h4]
   exact pixsD_all hP (pl := fun n => n) (fun t k ht hk => rpixD_all hP ht hk) _ _ _ ha hf'
theorem pnmDec_bal (s : ByteArray) : (pnmDec s).bal s.size 0 := by
 refine headD_all (DP.bal s 0) fun h h0 hK hW hH hM ha e => ?_
 refine ⟨rfl, ha, rfl, ha, ?_⟩
 rw [Nat.zero_add]
 refine bodyD_all (DP.bal s _) ha fun L hL => ⟨rfl, ?_⟩
 rw [flat_len, hL]
theorem bodyD_cost (s : ByteArray) (h : HeadR) (z : Nat) (ha : h.At ≤ s.size) : (bodyD s h z).cost + h.At ≤ s.size + (h.W * h.H) * 7 := by
 unfold bodyD
 by_cases h3 : h.K ≤ 3
 ·rw [if_pos h3]
  exact pixsD_pot (s := s) (T := s.size) (c := 6) (pl := fun n => n) (Nat.le_refl _) (fun t k T' ht hT hk => tpixD_pot ht hT hk) _ _ _ ha
 ·rw [if_neg h3]
  by_cases h4 : h.K = 4
  ·rw [if_pos h4]
   have := pixsD_cost (W := h.W) (H := h.H) (z := z) (c := 1) (step := bpixD s h.W z) (pl := fun t : Nat × Nat × Nat => t.2.1) (fun t k C hk => bpixD_cost fun v t' _ => hk v t') (h.W * h.H) (0, h.At, 0) []
   have := Nat.mul_le_mul_left (h.W * h.H) (show 1 + 1 ≤ 7 by omega)
   omega
  ·rw [if_neg h4]
   have := pixsD_cost (W := h.W) (H := h.H) (z := z) (c := 3) (step := rpixD s h.K (if 255 < h.M then 2 else 1) h.M z) (pl := fun n => n) (fun t k C hk => rpixD_cost fun v n _ => hk v n) (h.W * h.H) h.At []
   have := Nat.mul_le_mul_left (h.W * h.H) (show 3 + 1 ≤ 7 by omega)
   omega
end Go.Proofs.YtgmgcfjllijhgaaGreat
