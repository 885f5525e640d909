/- Colours; rows of colours in memory. Plain arithmetic on samples: the nearest of 256 by trying them all is the rounded quotient; monotone, onto. The contracts of scale's functions and of the reference of chapter 8: what each returns, for every argument. The walks of the laws of chapter 8 that keep no state: ScaleSamples, ScaleRises, ScaleLeast return true. Plain: what the pixels of a PNM file ask of a budget, and what they tell. Plain: what the pixels of a PNM file tell. Plain: where a row of bits stands. -/
import Derived.Test.YthljhebbblhakaaGreatDoorESync
import Derived.Deep.OwnRows
import Derived.Test.YthljhebbblhakaaGreatDoorProg
import Derived.Test.YthljhebbblhakaaGreatDoorEWords
import Derived.WalkSpells
import Derived.WalkLawsBesides
import Derived.Test.YthljhebbblhakaaGreatDoorEPnmD
namespace Go.Proofs.YthljhebbblhakaaGreatDoor
open Go.RowKit
set_option linter.unusedVariables false
set_option linter.unusedSimpArgs false

structure Qc where
  r : UInt8
  g : UInt8
  b : UInt8
  a : UInt8
deriving DecidableEq
def Qc.list (q : Qc) : List UInt8 := [q.r, q.g, q.b, q.a]
def Qc.v (q : Qc) : Value := .agg #[.int .u8 (q.r.toNat : Int), .int .u8 (q.g.toNat : Int), .int .u8 (q.b.toNat : Int), .int .u8 (q.a.toNat : Int)]
def flat (L : List Qc) : List UInt8 := (L.map Qc.list).flatten
theorem flat_len (L : List Qc) : (flat L).length = 4 * L.length := by
  induction L with
  | nil => rfl
  | cons q L ih =>
    simp only [flat, List.map_cons, List.flatten_cons, List.length_append, List.length_cons] at ih ⊢
    rw [ih]
    simp [Qc.list]
    omega
theorem flat_append (L M : List Qc) : flat (L ++ M) = flat L ++ flat M := by simp [flat]
def Qc.cells (q : Qc) : List Value := [.int .u8 (q.r.toNat : Int), .int .u8 (q.g.toNat : Int), .int .u8 (q.b.toNat : Int), .int .u8 (q.a.toNat : Int)]
def cq (L : List Qc) : List Value := (L.map Qc.cells).flatten
theorem cq_at (L : List Qc) (i j : Nat) (q : Qc) (h : L[i]? = some q) (hj : j < 4) : (cq L)[i * 4 + j]? = q.cells[j]? := by
  induction L generalizing i with
  | nil => simp at h
  | cons x L ih =>
    have e : cq (x :: L) = x.cells ++ cq L := by simp [cq]
    have hx4 : x.cells.length = 4 := rfl
    cases i with
    | zero =>
      have hx : x = q := by simpa using h
      subst hx
      rw [e, Nat.zero_mul, Nat.zero_add, List.getElem?_append_left (by omega)]
    | succ i =>
      rw [e, List.getElem?_append_right (by omega), hx4, show (i + 1) * 4 + j - 4 = i * 4 + j by omega]
      exact ih i (by simpa using h)
def OwnsQ (w : World) (base : Nat) (v : Value) (L : List Qc) : Prop := w.ownsRow base 48 4 v L.length (cq L)
/-- four cells a colour, from an address on -/
def QAt (w : World) (b off : Nat) (L : List Qc) : Prop := ∀ i q, L[i]? = some q → w.cell? ⟨b, off + i * 4, none⟩ = some (.int .u8 (q.r.toNat : Int)) ∧ w.cell? ⟨b, off + i * 4 + 1, none⟩ = some (.int .u8 (q.g.toNat : Int)) ∧ w.cell? ⟨b, off + i * 4 + 2, none⟩ = some (.int .u8 (q.b.toNat : Int)) ∧ w.cell? ⟨b, off + i * 4 + 3, none⟩ = some (.int .u8 (q.a.toNat : Int))
section
variable {w w' : World} {base : Nat} {v : Value} {L : List Qc}
theorem OwnsQ.alloc (h : OwnsQ w base v L) (o : Obj) : OwnsQ (w.alloc o) base v L := World.ownsRow.alloc h o
theorem OwnsQ.kept {row : Option Nat} (h : OwnsQ w base v L) (hg : w.grownBy w' row) (hne : v.ownBlock = none ∨ v.ownBlock ≠ row) : OwnsQ w' base v L := World.ownsRow.kept h hg hne
theorem OwnsQ.below (h : OwnsQ w base v L) (hb : Below w.heap.size w w') : OwnsQ w' base v L :=
  h.kept (row := none) ⟨hb.os, hb.tape, hb.output, hb.size, fun i hi _ => hb.block i hi⟩ (by cases v.ownBlock <;> simp)
theorem OwnsQ.turn {S : List Nat} (o : OwnsQ w base v L) (k : Turn S w w') (hS : ∀ i ∈ S, ∃ t cs, Blk w i t cs ∧ t ≠ 48) : OwnsQ w' base v L := by
  refine ⟨o.1, ?_⟩
  rcases o.2 with h | ⟨r, cap, cur, hv, hb, hr, h4, h5, h6, h7⟩
  · exact .inl h
  · refine .inr ⟨r, cap, cur, hv, hb, ?_, h4, h5, h6, h7⟩
    exact Blk.turn hr k (fun hm => by obtain ⟨t, cs, hbk, hn⟩ := hS r hm; exact Blk.ne_ hbk hr hn rfl)
theorem OwnsQ.form (h : OwnsQ w base v L) : (v = .slice none 0 0 ∧ L = []) ∨ ∃ g cap, v = .slice (some ⟨g, 0, none⟩) L.length cap ∧ base ≤ g ∧ g < w.heap.size ∧ L.length ≤ cap ∧ QAt w g 0 L := by
  rcases h.2 with ⟨rfl, hn⟩ | ⟨g, cap, cur, rfl, hb, hg, hc, hm, hs, ht⟩
  · exact .inl ⟨rfl, List.eq_nil_of_length_eq_zero hn⟩
  · refine .inr ⟨g, cap, rfl, hb, (World.ownsRow.lt h g rfl).2, hc, fun i q hi => ?_⟩
    have hil := (List.getElem?_eq_some_iff.1 hi).1
    have key : ∀ j, j < 4 → w.cell? ⟨g, i * 4 + j, none⟩ = q.cells[j]? := fun j hj => by
      rw [cell_of_row w g (i * 4 + j) cur _ (0, 0) hg, ← Array.getElem?_toList, ← cq_at L i j q hi hj, ← ht, List.getElem?_take_of_lt (by omega)]
    rw [Nat.zero_add]
    exact ⟨key 0 (by omega), key 1 (by omega), key 2 (by omega), key 3 (by omega)⟩
end
theorem infoQ : (Tryz.prog.info? 48).map (fun i => (i.zero, i.size, i.bytes)) = some (some (.agg #[.int .u8 0, .int .u8 0, .int .u8 0, .int .u8 0]), 4, 4) := by kernel_rfl
theorem QAt.below {w w' : World} {b off : Nat} {C : List Qc} (h : QAt w b off C) (hb : Below w.heap.size w w') : QAt w' b off C := fun i q hi => by
  obtain ⟨h0, h1, h2, h3⟩ := h i q hi
  have hl := World.block_lt_of_cell? w _ h0
  exact ⟨(hb.cell (p := ⟨b, off + i * 4, none⟩) hl).trans h0, (hb.cell (p := ⟨b, off + i * 4 + 1, none⟩) hl).trans h1, (hb.cell (p := ⟨b, off + i * 4 + 2, none⟩) hl).trans h2, (hb.cell (p := ⟨b, off + i * 4 + 3, none⟩) hl).trans h3⟩
theorem OwnsQ.slice {w : World} {base : Nat} {v : Value} {L : List Qc} (h : OwnsQ w base v L) : ∃ a c, v = .slice a L.length c := by
  rcases h.form with ⟨rfl, rfl⟩ | ⟨g, cap, rfl, _⟩
  · exact ⟨none, 0, rfl⟩
  · exact ⟨_, _, rfl⟩
theorem OwnsQ.at_ {w : World} {base g n c : Nat} {L : List Qc} (h : OwnsQ w base (.slice (some ⟨g, 0, none⟩) n c) L) : QAt w g 0 L := by
  rcases h.form with ⟨e, rfl⟩ | ⟨g', cap, e, _, _, _, hq⟩
  · cases e
  · simp only [Value.slice.injEq, Option.some.injEq, Addr.mk.injEq] at e
    rw [e.1.1]
    exact hq
end Go.Proofs.YthljhebbblhakaaGreatDoor
namespace Go.Proofs.YthljhebbblhakaaGreatDoor
set_option linter.unusedVariables false

def smay (v m : Int) : Bool := decide (1 ≤ m ∧ m ≤ 4294967295 ∧ 0 ≤ v ∧ v ≤ m)
def sround (v m : Int) : Int := (2 * v * 255 + m) / (2 * m)
def smax (v m : Int) : Int := if smay v m = true then sround v m else 0
theorem smay_iff {v m : Int} : smay v m = true ↔ 1 ≤ m ∧ m ≤ 4294967295 ∧ 0 ≤ v ∧ v ≤ m := by simp [smay]

/-- what the rounded quotient is: the bounds of its product -/
theorem sround_spec {v m : Int} (h1 : 1 ≤ m) : 2 * (sround v m * m) ≤ 2 * v * 255 + m ∧ 2 * v * 255 + m < 2 * (sround v m * m) + 2 * m := by
  unfold sround
  have hm : 0 < 2 * m := by omega
  have a := Int.mul_ediv_add_emod (2 * v * 255 + m) (2 * m)
  have b := Int.emod_nonneg (2 * v * 255 + m) (show 2 * m ≠ 0 by omega)
  have c := Int.emod_lt_of_pos (2 * v * 255 + m) hm
  have e : 2 * m * ((2 * v * 255 + m) / (2 * m)) = 2 * ((2 * v * 255 + m) / (2 * m) * m) := by
    rw [Int.mul_assoc, Int.mul_comm m]
  rw [e] at a
  omega

theorem sround_unique {v m t : Int} (h1 : 1 ≤ m) (a : 2 * (t * m) ≤ 2 * v * 255 + m) (b : 2 * v * 255 + m < 2 * (t * m) + 2 * m) : sround v m = t := by
  obtain ⟨c, d⟩ := sround_spec (v := v) h1
  rcases Int.lt_trichotomy (sround v m) t with h | h | h
  · have : (sround v m + 1) * m ≤ t * m := Int.mul_le_mul_of_nonneg_right (by omega) (by omega)
    rw [Int.add_mul] at this; omega
  · exact h
  · have : (t + 1) * m ≤ sround v m * m := Int.mul_le_mul_of_nonneg_right (by omega) (by omega)
    rw [Int.add_mul] at this; omega

theorem sround_range {v m : Int} (h1 : 1 ≤ m) (h3 : 0 ≤ v) (h4 : v ≤ m) : 0 ≤ sround v m ∧ sround v m ≤ 255 := by
  obtain ⟨c, d⟩ := sround_spec (v := v) h1
  constructor
  · rcases Int.lt_or_le (sround v m) 0 with h | h
    · have : sround v m * m ≤ (-1) * m := Int.mul_le_mul_of_nonneg_right (by omega) (by omega)
      omega
    · exact h
  · rcases Int.lt_or_le 255 (sround v m) with h | h
    · have : 256 * m ≤ sround v m * m := Int.mul_le_mul_of_nonneg_right (by omega) (by omega)
      omega
    · exact h

theorem sround_self {x : Int} : sround x 255 = x := sround_unique (by omega) (by omega) (by omega)
end Go.Proofs.YthljhebbblhakaaGreatDoor
namespace Go.Proofs.YthljhebbblhakaaGreatDoor
set_option linter.unusedVariables false
open Go.RowKit

theorem scaleMax_no (v m : Int) (w : World) (h : smay v m = false) :
    Calls Tryz.prog 131 #[.int .i64 v, .int .i64 m] w fun e w' => e = .returned (.tuple #[.int .u8 0, .bool false]) ∧ w = w' := by
  have h' : ¬ (1 ≤ m ∧ m ≤ 4294967295 ∧ 0 ≤ v ∧ v ≤ m) := by simpa [smay] using h
  clear h
  by_cases h1 : m < 1
  · go_enter Tryz.func131, Tryz.ntmps131
    go_wp2
    go_ret2
    exact ⟨rfl, rfl⟩
  by_cases h2 : 4294967295 < m
  · go_enter Tryz.func131, Tryz.ntmps131
    go_wp2
    go_ret2
    exact ⟨rfl, rfl⟩
  by_cases h3 : v < 0
  · go_enter Tryz.func131, Tryz.ntmps131
    go_wp2
    go_ret2
    exact ⟨rfl, rfl⟩
  have h4 : m < v := by omega
  go_enter Tryz.func131, Tryz.ntmps131
  go_wp2
  go_ret2
  exact ⟨rfl, rfl⟩

theorem scaleMax_yes (v m : Int) (w : World) (h : smay v m = true) :
    Calls Tryz.prog 131 #[.int .i64 v, .int .i64 m] w fun e w' => e = .returned (.tuple #[.int .u8 (sround v m), .bool true]) ∧ w = w' := by
  obtain ⟨h1, h2, h3, h4⟩ := smay_iff.1 h
  have hr := sround_range h1 h3 h4
  clear h
  go_enter Tryz.func131, Tryz.ntmps131
  go_wp2
  go_ret2
  refine ⟨ret2 (vint ?_) rfl, rfl⟩
  show sround v m % 256 = _
  omega

/-- both ways in one -/
theorem scaleMax_any (v m : Int) (w : World) :
    Calls Tryz.prog 131 #[.int .i64 v, .int .i64 m] w fun e w' => e = .returned (.tuple #[.int .u8 (smax v m), .bool (smay v m)]) ∧ w = w' := by
  cases h : smay v m
  · rw [show smax v m = 0 by simp [smax, h]]; exact scaleMax_no v m w h
  · rw [show smax v m = sround v m by simp [smax, h]]; exact scaleMax_yes v m w h

theorem refPower_any (n : Nat) (w : World) (hn : n ≤ 32) :
    Calls Tryz.prog 40 #[.int .i64 n] w fun e w' => e = .returned (.int .i64 ((2 ^ n : Nat) : Int)) ∧ w = w' := by
  go_enter Tryz.func40, Tryz.ntmps40
  go_wp2
  go_loop [3, 4] (fun v i => ∃ k : Nat, k ≤ n ∧ i = .int .i64 k ∧ ∃ p : Nat, p = 2 ^ k ∧ v = .int .i64 p) (fun _ i => n - (intOf i).toNat)
  case atStart => exact ⟨0, by omega, rfl, 1, rfl, rfl⟩
  case round =>
    obtain ⟨k, hk, rfl, p, hp, rfl⟩ := hrel
    have hp' := Lib.hid hp
    have hb : p ≤ 2 ^ 32 := by rw [hp]; exact Nat.pow_le_pow_right (by omega) (by omega)
    have hb' : p ≤ 4294967296 := hb
    clear hp hb
    by_cases hlt : k < n
    · go_wp2
      go_round
      case rel => exact ⟨k + 1, by omega, by go_num, p * 2, by rw [Nat.pow_succ, hp'.out], vint (by omega)⟩
      case measure => simp [intOf]; omega
    · obtain rfl : k = n := by omega
      go_wp2
      go_ret
      exact ⟨ret1 (vint (by rw [hp'.out]; simp)), rfl⟩

end Go.Proofs.YthljhebbblhakaaGreatDoor
namespace Go.Proofs.YthljhebbblhakaaGreatDoor
set_option linter.unusedVariables false
open Go.RowKit

end Go.Proofs.YthljhebbblhakaaGreatDoor
namespace Go.Proofs.YthljhebbblhakaaGreatDoor
set_option linter.unusedVariables false

/-- a sample as eight bits -/
def smp8 (v M : Nat) : UInt8 := UInt8.ofNat (sround (v : Int) (M : Int)).toNat
def grayQ (b : UInt8) : Qc := ⟨b, b, b, 255⟩
def smpD (s : ByteArray) (M a z : Nat) (k : UInt8 × Nat → Dec) : Dec := numD s a z fun r => if M < r.1 then badD z 2 r.2.1 else k (smp8 r.1 M, r.2.2)
def bitD (s : ByteArray) (a z : Nat) (k : Qc × Nat → Dec) : Dec := digD s a z fun r => k (grayQ (UInt8.ofNat (255 * (1 - r.1))), r.2.2)
/-- a pixel as text -/
def tpixD (s : ByteArray) (K M z : Nat) (a : Nat) (k : Qc × Nat → Dec) : Dec :=
  if K = 1 then bitD s a z k else if K = 3 then (smpD s M a z fun r => smpD s M r.2 z fun g => smpD s M g.2 z fun b => k (⟨r.1, g.1, b.1, 255⟩, b.2)) else smpD s M a z fun r => k (grayQ r.1, r.2)
/-- a sample of q bytes -/
def rsmpD (s : ByteArray) (q M a z : Nat) (k : UInt8 × Nat → Dec) : Dec := .work 1 z a (if a + q ≤ s.size then (if M < beN s a q then badD z 2 a else k (smp8 (beN s a q) M, a + q)) else badD z 1 s.size)
def rpixD (s : ByteArray) (K q M z : Nat) (a : Nat) (k : Qc × Nat → Dec) : Dec :=
  if K = 6 then (rsmpD s q M a z fun r => rsmpD s q M r.2 z fun g => rsmpD s q M g.2 z fun b => k (⟨r.1, g.1, b.1, 255⟩, b.2)) else rsmpD s q M a z fun r => k (grayQ r.1, r.2)
/-- a bit of a byte, the highest is number 0 -/
def bitQ (b i : Nat) : Qc := grayQ (UInt8.ofNat (255 * (1 - b / 2 ^ (7 - i) % 2)))
/-- a pixel of a bit: column, place, the byte that was read last -/
def bpixD (s : ByteArray) (W z : Nat) (t : Nat × Nat × Nat) (k : Qc × Nat × Nat × Nat → Dec) : Dec :=
  if t.1 % 8 = 0 then byteD s t.2.1 z fun b => k (bitQ b 0, (if t.1 + 1 = W then 0 else t.1 + 1), t.2.1 + 1, b)
  else k (bitQ t.2.2 (t.1 % 8), (if t.1 + 1 = W then 0 else t.1 + 1), t.2.1, t.2.2)
/-- pixels, one behind the other, each laid into the raster -/
def pixsD {σ : Type} (W H z : Nat) (step : σ → (Qc × σ → Dec) → Dec) (pl : σ → Nat) : Nat → σ → List Qc → Dec
  | 0, _, L => .fin (.img W H (flat L))
  | m + 1, t, L => step t fun r => .work 1 z (pl r.2) (pixsD W H z step pl m r.2 (L ++ [r.1]))

section
variable {s : ByteArray} {a z M q K W : Nat}
section
variable {P : Dec → Prop} (hP : DP s z P)
include hP
theorem smpD_all {k : UInt8 × Nat → Dec} (ha : a ≤ s.size) (hk : ∀ v n, n ≤ s.size → P (k (v, n))) : P (smpD s M a z k) := by
  refine numD_all hP ha fun V f n e1 hn hf han => ?_
  by_cases h : M < V
  · rw [if_pos h]; exact hP.bad _ _ (by decide) hf
  · rw [if_neg h]; exact hk _ _ hn
theorem tpixD_all {k : Qc × Nat → Dec} (ha : a ≤ s.size) (hk : ∀ v n, n ≤ s.size → P (k (v, n))) : P (tpixD s K M z a k) := by
  unfold tpixD
  by_cases h1 : K = 1
  · rw [if_pos h1]
    exact digD_all hP ha fun V f e1 hf _ _ => hk _ _ (by show f + 1 ≤ s.size; omega)
  · rw [if_neg h1]
    by_cases h3 : K = 3
    · rw [if_pos h3]
      exact smpD_all hP ha fun r n1 h1 => smpD_all hP h1 fun g n2 h2 => smpD_all hP h2 fun b n3 h3 => hk _ _ h3
    · rw [if_neg h3]
      exact smpD_all hP ha fun r n1 h1 => hk _ _ h1
theorem rsmpD_all {k : UInt8 × Nat → Dec} (ha : a ≤ s.size) (hk : ∀ v n, n ≤ s.size → P (k (v, n))) : P (rsmpD s q M a z k) := by
  refine hP.work _ _ ha ?_
  by_cases h : a + q ≤ s.size
  · rw [if_pos h]
    by_cases h2 : M < beN s a q
    · rw [if_pos h2]; exact hP.bad _ _ (by decide) ha
    · rw [if_neg h2]; exact hk _ _ h
  · rw [if_neg h]; exact hP.bad _ _ (by decide) (Nat.le_refl _)
theorem rpixD_all {k : Qc × Nat → Dec} (ha : a ≤ s.size) (hk : ∀ v n, n ≤ s.size → P (k (v, n))) : P (rpixD s K q M z a k) := by
  unfold rpixD
  by_cases h3 : K = 6
  · rw [if_pos h3]
    exact rsmpD_all hP ha fun r n1 h1 => rsmpD_all hP h1 fun g n2 h2 => rsmpD_all hP h2 fun b n3 h3 => hk _ _ h3
  · rw [if_neg h3]
    exact rsmpD_all hP ha fun r n1 h1 => hk _ _ h1
theorem bpixD_all {t : Nat × Nat × Nat} {k : Qc × Nat × Nat × Nat → Dec} (ha : t.2.1 ≤ s.size) (hk : ∀ v t', t'.2.1 ≤ s.size → P (k (v, t'))) : P (bpixD s W z t k) := by
  unfold bpixD
  by_cases h : t.1 % 8 = 0
  · rw [if_pos h]
    exact byteD_all hP ha fun h2 => hk _ _ h2
  · rw [if_neg h]
    exact hk _ _ ha
theorem pixsD_all {σ : Type} {W H : Nat} {step : σ → (Qc × σ → Dec) → Dec} {pl : σ → Nat} (hs : ∀ t k, pl t ≤ s.size → (∀ v t', pl t' ≤ s.size → P (k (v, t'))) → P (step t k)) : ∀ (m : Nat) (t : σ) (L : List Qc), pl t ≤ s.size → (∀ L', L'.length = L.length + m → P (.fin (.img W H (flat L')))) → P (pixsD W H z step pl m t L)
  | 0, t, L, _, hf => hf L rfl
  | m + 1, t, L, ht, hf => hs t _ ht fun v t' h' => hP.work _ _ h' (pixsD_all hs m t' (L ++ [v]) h' fun L' hL => hf L' (by rw [hL, List.length_append, List.length_singleton]; omega))
end
/-! ### steps -/
theorem smpD_pot {T : Nat} {k : UInt8 × Nat → Dec} (ha : a ≤ s.size) (hT : s.size ≤ T) (hk : ∀ v n, n ≤ s.size → (k (v, n)).cost + n ≤ T) : (smpD s M a z k).cost + a ≤ T + 2 := by
  refine numD_pot ha hT fun V f n e1 hn han => ?_
  by_cases h : M < V
  · simp only [if_pos h]
    show 0 + n ≤ T
    omega
  · simp only [if_neg h]
    exact hk _ _ hn
theorem tpixD_pot {T : Nat} {k : Qc × Nat → Dec} (ha : a ≤ s.size) (hT : s.size ≤ T) (hk : ∀ v n, n ≤ s.size → (k (v, n)).cost + n ≤ T) : (tpixD s K M z a k).cost + a ≤ T + 6 := by
  unfold tpixD
  by_cases h1 : K = 1
  · rw [if_pos h1]
    refine Nat.le_trans (digD_pot ha hT fun V f e1 hf _ => hk _ _ (by show f + 1 ≤ s.size; omega)) (by omega)
  · rw [if_neg h1]
    by_cases h3 : K = 3
    · rw [if_pos h3]
      exact smpD_pot (T := T + 4) ha (by omega) fun r n1 h1 => smpD_pot (T := T + 2) h1 (by omega) fun g n2 h2 => smpD_pot (T := T) h2 hT fun b n3 h3 => hk _ _ h3
    · rw [if_neg h3]
      exact Nat.le_trans (smpD_pot (T := T) ha hT fun r n1 h1 => hk _ _ h1) (by omega)
theorem rsmpD_cost {C : Nat} {k : UInt8 × Nat → Dec} (hk : ∀ v n, n ≤ s.size → (k (v, n)).cost ≤ C) : (rsmpD s q M a z k).cost ≤ C + 1 := by
  show (1 : Int).toNat + (if a + q ≤ s.size then (if M < beN s a q then badD z 2 a else k (smp8 (beN s a q) M, a + q)) else badD z 1 s.size).cost ≤ C + 1
  have e1 : (1 : Int).toNat = 1 := rfl
  rw [e1]
  by_cases h : a + q ≤ s.size
  · rw [if_pos h]
    by_cases h2 : M < beN s a q
    · rw [if_pos h2]
      show 1 + 0 ≤ C + 1
      omega
    · rw [if_neg h2]
      have := hk (smp8 (beN s a q) M) (a + q) h
      omega
  · rw [if_neg h]
    show 1 + 0 ≤ C + 1
    omega
theorem rpixD_cost {C : Nat} {k : Qc × Nat → Dec} (hk : ∀ v n, n ≤ s.size → (k (v, n)).cost ≤ C) : (rpixD s K q M z a k).cost ≤ C + 3 := by
  unfold rpixD
  by_cases h3 : K = 6
  · rw [if_pos h3]
    exact rsmpD_cost (C := C + 2) fun r n1 h1 => rsmpD_cost (C := C + 1) fun g n2 h2 => rsmpD_cost (C := C) fun b n3 h3 => hk _ _ h3
  · rw [if_neg h3]
    exact Nat.le_trans (rsmpD_cost (C := C) fun r n1 h1 => hk _ _ h1) (by omega)
theorem bpixD_cost {C : Nat} {t : Nat × Nat × Nat} {k : Qc × Nat × Nat × Nat → Dec} (hk : ∀ v t', t'.2.1 ≤ s.size ∨ t'.2.1 = t.2.1 → (k (v, t')).cost ≤ C) : (bpixD s W z t k).cost ≤ C + 1 := by
  unfold bpixD
  by_cases h : t.1 % 8 = 0
  · rw [if_pos h]
    show (1 : Int).toNat + (if t.2.1 < s.size then _ else badD z 1 s.size).cost ≤ C + 1
    have e1 : (1 : Int).toNat = 1 := rfl
    rw [e1]
    by_cases h2 : t.2.1 < s.size
    · rw [if_pos h2]
      have := hk (bitQ (bat s t.2.1) 0) ((if t.1 + 1 = W then 0 else t.1 + 1), t.2.1 + 1, bat s t.2.1) (.inl h2)
      rw [Nat.add_comm]
      exact Nat.add_le_add_right this 1
    · rw [if_neg h2]
      show 1 + 0 ≤ C + 1
      omega
  · rw [if_neg h]
    exact Nat.le_trans (hk _ _ (.inr rfl)) (by omega)
theorem pixsD_cost {σ : Type} {W H z c : Nat} {step : σ → (Qc × σ → Dec) → Dec} {pl : σ → Nat} (hs : ∀ t k C, (∀ v t', (k (v, t')).cost ≤ C) → (step t k).cost ≤ C + c) : ∀ (m : Nat) (t : σ) (L : List Qc), (pixsD W H z step pl m t L).cost ≤ m * (c + 1)
  | 0, t, L => by
    show 0 ≤ 0 * (c + 1)
    omega
  | m + 1, t, L => by
    have h := hs t (fun r => .work 1 z (pl r.2) (pixsD W H z step pl m r.2 (L ++ [r.1]))) (m * (c + 1) + 1) fun v t' => by
      show (1 : Int).toNat + (pixsD W H z step pl m t' (L ++ [v])).cost ≤ _
      have e1 : (1 : Int).toNat = 1 := rfl
      rw [e1]
      have := pixsD_cost (W := W) (H := H) (z := z) (pl := pl) hs m t' (L ++ [v])
      omega
    show (step t _).cost ≤ _
    refine Nat.le_trans h ?_
    rw [Nat.add_mul]
    omega
theorem pixsD_pot {σ : Type} {W H z c T : Nat} {step : σ → (Qc × σ → Dec) → Dec} {pl : σ → Nat} (hT : s.size ≤ T) (hs : ∀ t k T', pl t ≤ s.size → s.size ≤ T' → (∀ v t', pl t' ≤ s.size → (k (v, t')).cost + pl t' ≤ T') → (step t k).cost + pl t ≤ T' + c) : ∀ (m : Nat) (t : σ) (L : List Qc), pl t ≤ s.size → (pixsD W H z step pl m t L).cost + pl t ≤ T + m * (c + 1)
  | 0, t, L, ht => by
    show 0 + pl t ≤ T + 0 * (c + 1)
    omega
  | m + 1, t, L, ht => by
    have h := hs t (fun r => .work 1 z (pl r.2) (pixsD W H z step pl m r.2 (L ++ [r.1]))) (T + m * (c + 1) + 1) ht (by omega) fun v t' ht' => by
      show (1 : Int).toNat + (pixsD W H z step pl m t' (L ++ [v])).cost + pl t' ≤ _
      have e1 : (1 : Int).toNat = 1 := rfl
      rw [e1]
      have := pixsD_pot (W := W) (H := H) (z := z) hT hs m t' (L ++ [v]) ht'
      omega
    show (step t _).cost + pl t ≤ _
    refine Nat.le_trans h ?_
    rw [Nat.add_mul]
    omega
end
/-! ### the whole -/
/-- the pixels behind a head -/
def bodyD (s : ByteArray) (h : HeadR) (z : Nat) : Dec :=
  if h.K ≤ 3 then pixsD h.W h.H z (tpixD s h.K h.M z) (fun n => n) (h.W * h.H) h.At []
  else if h.K = 4 then pixsD h.W h.H z (bpixD s h.W z) (fun t => t.2.1) (h.W * h.H) (0, h.At, 0) []
  else pixsD h.W h.H z (rpixD s h.K (if 255 < h.M then 2 else 1) h.M z) (fun n => n) (h.W * h.H) h.At []
def pnmDec (s : ByteArray) : Dec := headD s 0 fun h => .sides h.W h.H h.At (.take (4 * (h.W * h.H)) h.At (bodyD s h (4 * (h.W * h.H))))
theorem bodyD_all {s : ByteArray} {h : HeadR} {z : Nat} {P : Dec → Prop} (hP : DP s z P) (ha : h.At ≤ s.size) (hf : ∀ L : List Qc, L.length = h.W * h.H → P (.fin (.img h.W h.H (flat L)))) : P (bodyD s h z) := by
  have hf' : ∀ L' : List Qc, L'.length = ([] : List Qc).length + h.W * h.H → P (.fin (.img h.W h.H (flat L'))) := fun L' hL => hf L' (by rw [hL]; simp)
  unfold bodyD
  by_cases h3 : h.K ≤ 3
  · rw [if_pos h3]
    exact pixsD_all hP (pl := fun n => n) (fun t k ht hk => tpixD_all hP ht hk) _ _ _ ha hf'
  · rw [if_neg h3]
    by_cases h4 : h.K = 4
    · rw [if_pos h4]
      exact pixsD_all hP (pl := fun t : Nat × Nat × Nat => t.2.1) (fun t k ht hk => bpixD_all hP ht hk) _ _ _ ha hf'
    · rw [if_neg h4]
      exact pixsD_all hP (pl := fun n => n) (fun t k ht hk => rpixD_all hP ht hk) _ _ _ ha hf'
theorem pnmDec_bal (s : ByteArray) : (pnmDec s).bal s.size 0 := by
  refine headD_all (DP.bal s 0) fun h h0 hK hW hH hM ha e => ?_
  refine ⟨rfl, ha, rfl, ha, ?_⟩
  rw [Nat.zero_add]
  refine bodyD_all (DP.bal s _) ha fun L hL => ⟨rfl, ?_⟩
  rw [flat_len, hL]
theorem bodyD_cost (s : ByteArray) (h : HeadR) (z : Nat) (ha : h.At ≤ s.size) : (bodyD s h z).cost + h.At ≤ s.size + (h.W * h.H) * 7 := by
  unfold bodyD
  by_cases h3 : h.K ≤ 3
  · rw [if_pos h3]
    exact pixsD_pot (s := s) (T := s.size) (c := 6) (pl := fun n => n) (Nat.le_refl _) (fun t k T' ht hT hk => tpixD_pot ht hT hk) _ _ _ ha
  · rw [if_neg h3]
    by_cases h4 : h.K = 4
    · rw [if_pos h4]
      have := pixsD_cost (W := h.W) (H := h.H) (z := z) (c := 1) (step := bpixD s h.W z) (pl := fun t : Nat × Nat × Nat => t.2.1) (fun t k C hk => bpixD_cost fun v t' _ => hk v t') (h.W * h.H) (0, h.At, 0) []
      have := Nat.mul_le_mul_left (h.W * h.H) (show 1 + 1 ≤ 7 by omega)
      omega
    · rw [if_neg h4]
      have := pixsD_cost (W := h.W) (H := h.H) (z := z) (c := 3) (step := rpixD s h.K (if 255 < h.M then 2 else 1) h.M z) (pl := fun n => n) (fun t k C hk => rpixD_cost fun v n _ => hk v n) (h.W * h.H) h.At []
      have := Nat.mul_le_mul_left (h.W * h.H) (show 3 + 1 ≤ 7 by omega)
      omega
end Go.Proofs.YthljhebbblhakaaGreatDoor
namespace Go.Proofs.YthljhebbblhakaaGreatDoor
set_option linter.unusedVariables false

/-- what a step tells: a fault's kind and place, or a result -/
abbrev Out (α : Type) := (Nat × Nat) ⊕ α
def Out.told {α : Type} (x : Out α) (k : α → DRes) : DRes := match x with
  | .inl b => .bad b.1 b.2
  | .inr r => k r
def Out.bind {α β : Type} (x : Out α) (f : α → Out β) : Out β := match x with
  | .inl b => .inl b
  | .inr r => f r
theorem Out.told_bind {α β : Type} (x : Out α) (f : α → Out β) (k : β → DRes) : (x.bind f).told k = x.told fun r => (f r).told k := by
  cases x <;> rfl
def smpR (s : ByteArray) (M a : Nat) : Out (UInt8 × Nat) :=
  if (numberAt (nats s) a).Kind ≠ 0 then .inl ((numberAt (nats s) a).Kind, (numberAt (nats s) a).Place) else if M < (numberAt (nats s) a).V then .inl (2, (numberAt (nats s) a).At) else .inr (smp8 (numberAt (nats s) a).V M, (numberAt (nats s) a).Next)
def bitR (s : ByteArray) (a : Nat) : Out (Qc × Nat) :=
  if (digitAt (nats s) a).Kind ≠ 0 then .inl ((digitAt (nats s) a).Kind, (digitAt (nats s) a).Place) else .inr (grayQ (UInt8.ofNat (255 * (1 - (digitAt (nats s) a).V))), (digitAt (nats s) a).Next)
def tpixR (s : ByteArray) (K M : Nat) (a : Nat) : Out (Qc × Nat) :=
  if K = 1 then bitR s a else if K = 3 then ((smpR s M a).bind fun r => (smpR s M r.2).bind fun g => (smpR s M g.2).bind fun b => .inr (⟨r.1, g.1, b.1, 255⟩, b.2)) else (smpR s M a).bind fun r => .inr (grayQ r.1, r.2)
def rsmpR (s : ByteArray) (q M a : Nat) : Out (UInt8 × Nat) := if a + q ≤ s.size then (if M < beN s a q then .inl (2, a) else .inr (smp8 (beN s a q) M, a + q)) else .inl (1, s.size)
def rpixR (s : ByteArray) (K q M : Nat) (a : Nat) : Out (Qc × Nat) :=
  if K = 6 then ((rsmpR s q M a).bind fun r => (rsmpR s q M r.2).bind fun g => (rsmpR s q M g.2).bind fun b => .inr (⟨r.1, g.1, b.1, 255⟩, b.2)) else (rsmpR s q M a).bind fun r => .inr (grayQ r.1, r.2)
def bpixR (s : ByteArray) (W : Nat) (t : Nat × Nat × Nat) : Out (Qc × Nat × Nat × Nat) :=
  if t.1 % 8 = 0 then (if t.2.1 < s.size then .inr (bitQ (bat s t.2.1) 0, (if t.1 + 1 = W then 0 else t.1 + 1), t.2.1 + 1, bat s t.2.1) else .inl (1, s.size))
  else .inr (bitQ t.2.2 (t.1 % 8), (if t.1 + 1 = W then 0 else t.1 + 1), t.2.1, t.2.2)
def pixsR {σ : Type} (W H : Nat) (step : σ → Out (Qc × σ)) : Nat → σ → List Qc → DRes
  | 0, _, L => .img W H (flat L)
  | m + 1, t, L => (step t).told fun r => pixsR W H step m r.2 (L ++ [r.1])
section
variable {s : ByteArray} {a z M q K W H : Nat}
theorem smpD_told {k : UInt8 × Nat → Dec} : (smpD s M a z k).told = (smpR s M a).told fun r => (k r).told := by
  unfold smpD smpR
  rw [numD_told, gotD_told]
  split
  · rfl
  · split <;> rfl
theorem bitD_told {k : Qc × Nat → Dec} : (bitD s a z k).told = (bitR s a).told fun r => (k r).told := by
  unfold bitD bitR
  rw [digD_told, gotD_told]
  split <;> rfl
theorem tpixD_told {k : Qc × Nat → Dec} : (tpixD s K M z a k).told = (tpixR s K M a).told fun r => (k r).told := by
  unfold tpixD tpixR
  by_cases h1 : K = 1
  · rw [if_pos h1, if_pos h1, bitD_told]
  · rw [if_neg h1, if_neg h1]
    by_cases h3 : K = 3
    · rw [if_pos h3, if_pos h3, smpD_told, Out.told_bind]
      congr 1; funext r
      rw [smpD_told, Out.told_bind]
      congr 1; funext g
      rw [smpD_told, Out.told_bind]
      rfl
    · rw [if_neg h3, if_neg h3, smpD_told, Out.told_bind]
      rfl
theorem rsmpD_told {k : UInt8 × Nat → Dec} : (rsmpD s q M a z k).told = (rsmpR s q M a).told fun r => (k r).told := by
  unfold rsmpR
  show (if a + q ≤ s.size then (if M < beN s a q then badD z 2 a else k (smp8 (beN s a q) M, a + q)) else badD z 1 s.size).told = _
  split
  · split <;> rfl
  · rfl
theorem rpixD_told {k : Qc × Nat → Dec} : (rpixD s K q M z a k).told = (rpixR s K q M a).told fun r => (k r).told := by
  unfold rpixD rpixR
  by_cases h3 : K = 6
  · rw [if_pos h3, if_pos h3, rsmpD_told, Out.told_bind]
    congr 1; funext r
    rw [rsmpD_told, Out.told_bind]
    congr 1; funext g
    rw [rsmpD_told, Out.told_bind]
    rfl
  · rw [if_neg h3, if_neg h3, rsmpD_told, Out.told_bind]
    rfl
theorem bpixD_told {t : Nat × Nat × Nat} {k : Qc × Nat × Nat × Nat → Dec} : (bpixD s W z t k).told = (bpixR s W t).told fun r => (k r).told := by
  unfold bpixD bpixR
  split
  · rw [byteD_told]
    split <;> rfl
  · rfl
theorem pixsD_told {σ : Type} {step : σ → (Qc × σ → Dec) → Dec} {stepR : σ → Out (Qc × σ)} {pl : σ → Nat} (h : ∀ t k, (step t k).told = (stepR t).told fun r => (k r).told) : ∀ (m : Nat) (t : σ) (L : List Qc), (pixsD W H z step pl m t L).told = pixsR W H stepR m t L
  | 0, t, L => rfl
  | m + 1, t, L => by
    show (step t _).told = _
    rw [h]
    show _ = (stepR t).told _
    congr 1; funext r
    exact pixsD_told h m r.2 (L ++ [r.1])
end
/-- what the pixels behind a head tell -/
def bodyR (s : ByteArray) (h : HeadR) : DRes :=
  if h.K ≤ 3 then pixsR h.W h.H (tpixR s h.K h.M) (h.W * h.H) h.At []
  else if h.K = 4 then pixsR h.W h.H (bpixR s h.W) (h.W * h.H) (0, h.At, 0) []
  else pixsR h.W h.H (rpixR s h.K (if 255 < h.M then 2 else 1) h.M) (h.W * h.H) h.At []
theorem bodyD_told (s : ByteArray) (h : HeadR) (z : Nat) : (bodyD s h z).told = bodyR s h := by
  unfold bodyD bodyR
  split
  · exact pixsD_told (step := tpixD s h.K h.M z) (stepR := tpixR s h.K h.M) (fun t k => tpixD_told) _ _ _
  · split
    · exact pixsD_told (step := bpixD s h.W z) (stepR := bpixR s h.W) (fun t k => bpixD_told) _ _ _
    · exact pixsD_told (step := rpixD s h.K (if 255 < h.M then 2 else 1) h.M z) (stepR := rpixR s h.K (if 255 < h.M then 2 else 1) h.M) (fun t k => rpixD_told) _ _ _
theorem pnmDec_told (s : ByteArray) : (pnmDec s).told = if (headAt (nats s)).Kind ≠ 0 then .bad (headAt (nats s)).Kind (headAt (nats s)).Place else bodyR s (headAt (nats s)) := by
  unfold pnmDec
  rw [headD_told]
  split
  · rfl
  · show (bodyD s (headAt (nats s)) _).told = _
    rw [bodyD_told]
end Go.Proofs.YthljhebbblhakaaGreatDoor
namespace Go.Proofs.YthljhebbblhakaaGreatDoor
set_option linter.unusedVariables false

/-- where a row of bits stands: column, the next place, the byte that was read last -/
def BSt (s : ByteArray) (fr x : Nat) (t : Nat × Nat × Nat) : Prop := t.1 = x ∧ t.2.1 = fr + (x + 7) / 8 ∧ (x % 8 ≠ 0 → fr + x / 8 < s.size ∧ t.2.2 = bat s (fr + x / 8))
def BIn (s : ByteArray) (W fr r x : Nat) (t : Nat × Nat × Nat) : Prop := (x < W → BSt s fr x t) ∧ (x = W → BSt s (fr + r) 0 t)
theorem bst_step {s : ByteArray} {W fr r x : Nat} {t : Nat × Nat × Nat} (hr : r = (W + 7) / 8) (hx : x < W) (h : BIn s W fr r x t) :
    (fr + x / 8 < s.size ∧ ∃ t', bpixR s W t = .inr (bitQ (bat s (fr + x / 8)) (x % 8), t') ∧ BIn s W fr r (x + 1) t') ∨ (s.size ≤ fr + x / 8 ∧ bpixR s W t = .inl (1, s.size)) := by
  obtain ⟨h1, h2, h3⟩ := h.1 hx
  obtain ⟨c, p, b⟩ := t
  simp only at h1 h2 h3
  subst h1 h2
  unfold bpixR
  simp only
  by_cases h8 : c % 8 = 0
  · rw [if_pos h8]
    have e1 : (c + 7) / 8 = c / 8 := by omega
    rw [e1]
    by_cases hs : fr + c / 8 < s.size
    · rw [if_pos hs, h8]
      refine .inl ⟨hs, _, rfl, fun hw => ?_, fun hw => ?_⟩
      · rw [if_neg (by omega)]
        exact ⟨rfl, by show fr + c / 8 + 1 = fr + (c + 1 + 7) / 8; omega, fun _ => ⟨by omega, by show bat s (fr + c / 8) = _; rw [show (c + 1) / 8 = c / 8 by omega]⟩⟩
      · rw [if_pos hw]
        exact ⟨rfl, by show fr + c / 8 + 1 = fr + r + (0 + 7) / 8; omega, fun h => absurd rfl h⟩
    · rw [if_neg hs]
      exact .inr ⟨by omega, rfl⟩
  · rw [if_neg h8]
    obtain ⟨hs, hb⟩ := h3 h8
    subst hb
    refine .inl ⟨hs, _, rfl, fun hw => ?_, fun hw => ?_⟩
    · rw [if_neg (by omega)]
      refine ⟨rfl, by show fr + (c + 7) / 8 = fr + (c + 1 + 7) / 8; omega, fun h => ⟨by omega, by show bat s (fr + c / 8) = _; rw [show (c + 1) / 8 = c / 8 by omega]⟩⟩
    · rw [if_pos hw]
      exact ⟨rfl, by show fr + (c + 7) / 8 = fr + r + (0 + 7) / 8; omega, fun h => absurd rfl h⟩
theorem BIn.row {s : ByteArray} {W fr r : Nat} {t : Nat × Nat × Nat} (hW : 1 ≤ W) (h : BSt s fr 0 t) : BIn s W fr r 0 t := ⟨fun _ => h, fun e => by omega⟩
end Go.Proofs.YthljhebbblhakaaGreatDoor
