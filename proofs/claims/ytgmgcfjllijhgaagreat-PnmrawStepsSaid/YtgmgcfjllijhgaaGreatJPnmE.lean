/- Plain: what the pixels of a PNM file ask of a budget, and what they tell. -/
import Derived.Test.YtgmgcfjllijhgaaGreatJPnmD
import Derived.Test.YtgmgcfjllijhgaaGreatJScale
namespace Go.Proofs.YtgmgcfjllijhgaaGreat
set_option linter.unusedVariables false

/-- a sample as eight bits -/
def smp8 (v M : Nat) : UInt8 := UInt8.ofNat (sround (v : Int) (M : Int)).toNat
def grayQ (b : UInt8) : Qc := ⟨b, b, b, 255⟩
def smpD (s : ByteArray) (M a z : Nat) (k : UInt8 × Nat → Dec) : Dec := numD s a z fun r => if M < r.1 then badD z 2 r.2.1 else k (smp8 r.1 M, r.2.2)
def bitD (s : ByteArray) (a z : Nat) (k : Qc × Nat → Dec) : Dec := digD s a z fun r => k (grayQ (UInt8.ofNat (255 * (1 - r.1))), r.2.2)
/-- a pixel as text -/
def tpixD (s : ByteArray) (K M z : Nat) (a : Nat) (k : Qc × Nat → Dec) : Dec :=
  if K = 1 then bitD s a z k else if K = 3 then (smpD s M a z fun r => smpD s M r.2 z fun g => smpD s M g.2 z fun b => k (⟨r.1, g.1, b.1, 255⟩, b.2)) else smpD s M a z fun r => k (grayQ r.1, r.2)
/-- a sample of q bytes -/
def rsmpD (s : ByteArray) (q M a z : Nat) (k : UInt8 × Nat → Dec) : Dec := .work 1 z a (if a + q ≤ s.size then (if M < beN s a q then badD z 2 a else k (smp8 (beN s a q) M, a + q)) else badD z 1 s.size)
def rpixD (s : ByteArray) (K q M z : Nat) (a : Nat) (k : Qc × Nat → Dec) : Dec :=
  if K = 6 then (rsmpD s q M a z fun r => rsmpD s q M r.2 z fun g => rsmpD s q M g.2 z fun b => k (⟨r.1, g.1, b.1, 255⟩, b.2)) else rsmpD s q M a z fun r => k (grayQ r.1, r.2)
/-- a bit of a byte, the highest is number 0 -/
def bitQ (b i : Nat) : Qc := grayQ (UInt8.ofNat (255 * (1 - b / 2 ^ (7 - i) % 2)))
/-- a pixel of a bit: column, place, the byte that was read last -/
def bpixD (s : ByteArray) (W z : Nat) (t : Nat × Nat × Nat) (k : Qc × Nat × Nat × Nat → Dec) : Dec :=
  if t.1 % 8 = 0 then byteD s t.2.1 z fun b => k (bitQ b 0, (if t.1 + 1 = W then 0 else t.1 + 1), t.2.1 + 1, b)
  else k (bitQ t.2.2 (t.1 % 8), (if t.1 + 1 = W then 0 else t.1 + 1), t.2.1, t.2.2)
/-- pixels, one behind the other, each laid into the raster -/
def pixsD {σ : Type} (W H z : Nat) (step : σ → (Qc × σ → Dec) → Dec) (pl : σ → Nat) : Nat → σ → List Qc → Dec
  | 0, _, L => .fin (.img W H (flat L))
  | m + 1, t, L => step t fun r => .work 1 z (pl r.2) (pixsD W H z step pl m r.2 (L ++ [r.1]))

section
variable {s : ByteArray} {a z M q K W : Nat}
section
variable {P : Dec → Prop} (hP : DP s z P)
include hP
theorem smpD_all {k : UInt8 × Nat → Dec} (ha : a ≤ s.size) (hk : ∀ v n, n ≤ s.size → P (k (v, n))) : P (smpD s M a z k) := by
  refine numD_all hP ha fun V f n e1 hn hf han => ?_
  by_cases h : M < V
  · rw [if_pos h]; exact hP.bad _ _ (by decide) hf
  · rw [if_neg h]; exact hk _ _ hn
theorem tpixD_all {k : Qc × Nat → Dec} (ha : a ≤ s.size) (hk : ∀ v n, n ≤ s.size → P (k (v, n))) : P (tpixD s K M z a k) := by
  unfold tpixD
  by_cases h1 : K = 1
  · rw [if_pos h1]
    exact digD_all hP ha fun V f e1 hf _ _ => hk _ _ (by show f + 1 ≤ s.size; omega)
  · rw [if_neg h1]
    by_cases h3 : K = 3
    · rw [if_pos h3]
      exact smpD_all hP ha fun r n1 h1 => smpD_all hP h1 fun g n2 h2 => smpD_all hP h2 fun b n3 h3 => hk _ _ h3
    · rw [if_neg h3]
      exact smpD_all hP ha fun r n1 h1 => hk _ _ h1
theorem rsmpD_all {k : UInt8 × Nat → Dec} (ha : a ≤ s.size) (hk : ∀ v n, n ≤ s.size → P (k (v, n))) : P (rsmpD s q M a z k) := by
  refine hP.work _ _ ha ?_
  by_cases h : a + q ≤ s.size
  · rw [if_pos h]
    by_cases h2 : M < beN s a q
    · rw [if_pos h2]; exact hP.bad _ _ (by decide) ha
    · rw [if_neg h2]; exact hk _ _ h
  · rw [if_neg h]; exact hP.bad _ _ (by decide) (Nat.le_refl _)
theorem rpixD_all {k : Qc × Nat → Dec} (ha : a ≤ s.size) (hk : ∀ v n, n ≤ s.size → P (k (v, n))) : P (rpixD s K q M z a k) := by
  unfold rpixD
  by_cases h3 : K = 6
  · rw [if_pos h3]
    exact rsmpD_all hP ha fun r n1 h1 => rsmpD_all hP h1 fun g n2 h2 => rsmpD_all hP h2 fun b n3 h3 => hk _ _ h3
  · rw [if_neg h3]
    exact rsmpD_all hP ha fun r n1 h1 => hk _ _ h1
theorem bpixD_all {t : Nat × Nat × Nat} {k : Qc × Nat × Nat × Nat → Dec} (ha : t.2.1 ≤ s.size) (hk : ∀ v t', t'.2.1 ≤ s.size → P (k (v, t'))) : P (bpixD s W z t k) := by
  unfold bpixD
  by_cases h : t.1 % 8 = 0
  · rw [if_pos h]
    exact byteD_all hP ha fun h2 => hk _ _ h2
  · rw [if_neg h]
    exact hk _ _ ha
theorem pixsD_all {σ : Type} {W H : Nat} {step : σ → (Qc × σ → Dec) → Dec} {pl : σ → Nat} (hs : ∀ t k, pl t ≤ s.size → (∀ v t', pl t' ≤ s.size → P (k (v, t'))) → P (step t k)) : ∀ (m : Nat) (t : σ) (L : List Qc), pl t ≤ s.size → (∀ L', L'.length = L.length + m → P (.fin (.img W H (flat L')))) → P (pixsD W H z step pl m t L)
  | 0, t, L, _, hf => hf L rfl
  | m + 1, t, L, ht, hf => hs t _ ht fun v t' h' => hP.work _ _ h' (pixsD_all hs m t' (L ++ [v]) h' fun L' hL => hf L' (by rw [hL, List.length_append, List.length_singleton]; omega))
end
/-! ### steps -/
theorem smpD_pot {T : Nat} {k : UInt8 × Nat → Dec} (ha : a ≤ s.size) (hT : s.size ≤ T) (hk : ∀ v n, n ≤ s.size → (k (v, n)).cost + n ≤ T) : (smpD s M a z k).cost + a ≤ T + 2 := by
  refine numD_pot ha hT fun V f n e1 hn han => ?_
  by_cases h : M < V
  · simp only [if_pos h]
    show 0 + n ≤ T
    omega
  · simp only [if_neg h]
    exact hk _ _ hn
theorem tpixD_pot {T : Nat} {k : Qc × Nat → Dec} (ha : a ≤ s.size) (hT : s.size ≤ T) (hk : ∀ v n, n ≤ s.size → (k (v, n)).cost + n ≤ T) : (tpixD s K M z a k).cost + a ≤ T + 6 := by
  unfold tpixD
  by_cases h1 : K = 1
  · rw [if_pos h1]
    refine Nat.le_trans (digD_pot ha hT fun V f e1 hf _ => hk _ _ (by show f + 1 ≤ s.size; omega)) (by omega)
  · rw [if_neg h1]
    by_cases h3 : K = 3
    · rw [if_pos h3]
      exact smpD_pot (T := T + 4) ha (by omega) fun r n1 h1 => smpD_pot (T := T + 2) h1 (by omega) fun g n2 h2 => smpD_pot (T := T) h2 hT fun b n3 h3 => hk _ _ h3
    · rw [if_neg h3]
      exact Nat.le_trans (smpD_pot (T := T) ha hT fun r n1 h1 => hk _ _ h1) (by omega)
theorem rsmpD_cost {C : Nat} {k : UInt8 × Nat → Dec} (hk : ∀ v n, n ≤ s.size → (k (v, n)).cost ≤ C) : (rsmpD s q M a z k).cost ≤ C + 1 := by
  show (1 : Int).toNat + (if a + q ≤ s.size then (if M < beN s a q then badD z 2 a else k (smp8 (beN s a q) M, a + q)) else badD z 1 s.size).cost ≤ C + 1
  have e1 : (1 : Int).toNat = 1 := rfl
  rw [e1]
  by_cases h : a + q ≤ s.size
  · rw [if_pos h]
    by_cases h2 : M < beN s a q
    · rw [if_pos h2]
      show 1 + 0 ≤ C + 1
      omega
    · rw [if_neg h2]
      have := hk (smp8 (beN s a q) M) (a + q) h
      omega
  · rw [if_neg h]
    show 1 + 0 ≤ C + 1
    omega
theorem rpixD_cost {C : Nat} {k : Qc × Nat → Dec} (hk : ∀ v n, n ≤ s.size → (k (v, n)).cost ≤ C) : (rpixD s K q M z a k).cost ≤ C + 3 := by
  unfold rpixD
  by_cases h3 : K = 6
  · rw [if_pos h3]
    exact rsmpD_cost (C := C + 2) fun r n1 h1 => rsmpD_cost (C := C + 1) fun g n2 h2 => rsmpD_cost (C := C) fun b n3 h3 => hk _ _ h3
  · rw [if_neg h3]
    exact Nat.le_trans (rsmpD_cost (C := C) fun r n1 h1 => hk _ _ h1) (by omega)
theorem bpixD_cost {C : Nat} {t : Nat × Nat × Nat} {k : Qc × Nat × Nat × Nat → Dec} (hk : ∀ v t', t'.2.1 ≤ s.size ∨ t'.2.1 = t.2.1 → (k (v, t')).cost ≤ C) : (bpixD s W z t k).cost ≤ C + 1 := by
  unfold bpixD
  by_cases h : t.1 % 8 = 0
  · rw [if_pos h]
    show (1 : Int).toNat + (if t.2.1 < s.size then _ else badD z 1 s.size).cost ≤ C + 1
    have e1 : (1 : Int).toNat = 1 := rfl
    rw [e1]
    by_cases h2 : t.2.1 < s.size
    · rw [if_pos h2]
      have := hk (bitQ (bat s t.2.1) 0) ((if t.1 + 1 = W then 0 else t.1 + 1), t.2.1 + 1, bat s t.2.1) (.inl h2)
      rw [Nat.add_comm]
      exact Nat.add_le_add_right this 1
    · rw [if_neg h2]
      show 1 + 0 ≤ C + 1
      omega
  · rw [if_neg h]
    exact Nat.le_trans (hk _ _ (.inr rfl)) (by omega)
theorem pixsD_cost {σ : Type} {W H z c : Nat} {step : σ → (Qc × σ → Dec) → Dec} {pl : σ → Nat} (hs : ∀ t k C, (∀ v t', (k (v, t')).cost ≤ C) → (step t k).cost ≤ C + c) : ∀ (m : Nat) (t : σ) (L : List Qc), (pixsD W H z step pl m t L).cost ≤ m * (c + 1)
  | 0, t, L => by
    show 0 ≤ 0 * (c + 1)
    omega
  | m + 1, t, L => by
    have h := hs t (fun r => .work 1 z (pl r.2) (pixsD W H z step pl m r.2 (L ++ [r.1]))) (m * (c + 1) + 1) fun v t' => by
      show (1 : Int).toNat + (pixsD W H z step pl m t' (L ++ [v])).cost ≤ _
      have e1 : (1 : Int).toNat = 1 := rfl
      rw [e1]
      have := pixsD_cost (W := W) (H := H) (z := z) (pl := pl) hs m t' (L ++ [v])
      omega
    show (step t _).cost ≤ _
    refine Nat.le_trans h ?_
    rw [Nat.add_mul]
    omega
theorem pixsD_pot {σ : Type} {W H z c T : Nat} {step : σ → (Qc × σ → Dec) → Dec} {pl : σ → Nat} (hT : s.size ≤ T) (hs : ∀ t k T', pl t ≤ s.size → s.size ≤ T' → (∀ v t', pl t' ≤ s.size → (k (v, t')).cost + pl t' ≤ T') → (step t k).cost + pl t ≤ T' + c) : ∀ (m : Nat) (t : σ) (L : List Qc), pl t ≤ s.size → (pixsD W H z step pl m t L).cost + pl t ≤ T + m * (c + 1)
  | 0, t, L, ht => by
    show 0 + pl t ≤ T + 0 * (c + 1)
    omega
  | m + 1, t, L, ht => by
    have h := hs t (fun r => .work 1 z (pl r.2) (pixsD W H z step pl m r.2 (L ++ [r.1]))) (T + m * (c + 1) + 1) ht (by omega) fun v t' ht' => by
      show (1 : Int).toNat + (pixsD W H z step pl m t' (L ++ [v])).cost + pl t' ≤ _
      have e1 : (1 : Int).toNat = 1 := rfl
      rw [e1]
      have := pixsD_pot (W := W) (H := H) (z := z) hT hs m t' (L ++ [v]) ht'
      omega
    show (step t _).cost + pl t ≤ _
    refine Nat.le_trans h ?_
    rw [Nat.add_mul]
    omega
end
/-! ### the whole -/
/-- the pixels behind a head -/
def bodyD (s : ByteArray) (h : HeadR) (z : Nat) : Dec :=
  if h.K ≤ 3 then pixsD h.W h.H z (tpixD s h.K h.M z) (fun n => n) (h.W * h.H) h.At []
  else if h.K = 4 then pixsD h.W h.H z (bpixD s h.W z) (fun t => t.2.1) (h.W * h.H) (0, h.At, 0) []
  else pixsD h.W h.H z (rpixD s h.K (if 255 < h.M then 2 else 1) h.M z) (fun n => n) (h.W * h.H) h.At []
def pnmDec (s : ByteArray) : Dec := headD s 0 fun h => .sides h.W h.H h.At (.take (4 * (h.W * h.H)) h.At (bodyD s h (4 * (h.W * h.H))))
theorem bodyD_all {s : ByteArray} {h : HeadR} {z : Nat} {P : Dec → Prop} (hP : DP s z P) (ha : h.At ≤ s.size) (hf : ∀ L : List Qc, L.length = h.W * h.H → P (.fin (.img h.W h.H (flat L)))) : P (bodyD s h z) := by
  have hf' : ∀ L' : List Qc, L'.length = ([] : List Qc).length + h.W * h.H → P (.fin (.img h.W h.H (flat L'))) := fun L' hL => hf L' (by rw [hL]; simp)
  unfold bodyD
  by_cases h3 : h.K ≤ 3
  · rw [if_pos h3]
    exact pixsD_all hP (pl := fun n => n) (fun t k ht hk => tpixD_all hP ht hk) _ _ _ ha hf'
  · rw [if_neg h3]
    by_cases h4 : h.K = 4
    · rw [if_pos h4]
      exact pixsD_all hP (pl := fun t : Nat × Nat × Nat => t.2.1) (fun t k ht hk => bpixD_all hP ht hk) _ _ _ ha hf'
    · rw [if_neg h4]
      exact pixsD_all hP (pl := fun n => n) (fun t k ht hk => rpixD_all hP ht hk) _ _ _ ha hf'
theorem pnmDec_bal (s : ByteArray) : (pnmDec s).bal s.size 0 := by
  refine headD_all (DP.bal s 0) fun h h0 hK hW hH hM ha e => ?_
  refine ⟨rfl, ha, rfl, ha, ?_⟩
  rw [Nat.zero_add]
  refine bodyD_all (DP.bal s _) ha fun L hL => ⟨rfl, ?_⟩
  rw [flat_len, hL]
theorem bodyD_cost (s : ByteArray) (h : HeadR) (z : Nat) (ha : h.At ≤ s.size) : (bodyD s h z).cost + h.At ≤ s.size + (h.W * h.H) * 7 := by
  unfold bodyD
  by_cases h3 : h.K ≤ 3
  · rw [if_pos h3]
    exact pixsD_pot (s := s) (T := s.size) (c := 6) (pl := fun n => n) (Nat.le_refl _) (fun t k T' ht hT hk => tpixD_pot ht hT hk) _ _ _ ha
  · rw [if_neg h3]
    by_cases h4 : h.K = 4
    · rw [if_pos h4]
      have := pixsD_cost (W := h.W) (H := h.H) (z := z) (c := 1) (step := bpixD s h.W z) (pl := fun t : Nat × Nat × Nat => t.2.1) (fun t k C hk => bpixD_cost fun v t' _ => hk v t') (h.W * h.H) (0, h.At, 0) []
      have := Nat.mul_le_mul_left (h.W * h.H) (show 1 + 1 ≤ 7 by omega)
      omega
    · rw [if_neg h4]
      have := pixsD_cost (W := h.W) (H := h.H) (z := z) (c := 3) (step := rpixD s h.K (if 255 < h.M then 2 else 1) h.M z) (pl := fun n => n) (fun t k C hk => rpixD_cost fun v n _ => hk v n) (h.W * h.H) h.At []
      have := Nat.mul_le_mul_left (h.W * h.H) (show 3 + 1 ≤ 7 by omega)
      omega
theorem bodyD_raw (s : ByteArray) (h : HeadR) (z : Nat) (h3 : ¬ h.K ≤ 3) : (bodyD s h z).cost ≤ (h.W * h.H) * 4 := by
  unfold bodyD
  rw [if_neg h3]
  by_cases h4 : h.K = 4
  · rw [if_pos h4]
    have := pixsD_cost (W := h.W) (H := h.H) (z := z) (c := 1) (step := bpixD s h.W z) (pl := fun t : Nat × Nat × Nat => t.2.1) (fun t k C hk => bpixD_cost fun v t' _ => hk v t') (h.W * h.H) (0, h.At, 0) []
    have := Nat.mul_le_mul_left (h.W * h.H) (show 1 + 1 ≤ 4 by omega)
    omega
  · rw [if_neg h4]
    exact pixsD_cost (W := h.W) (H := h.H) (z := z) (c := 3) (step := rpixD s h.K (if 255 < h.M then 2 else 1) h.M z) (pl := fun n => n) (fun t k C hk => rpixD_cost fun v n _ => hk v n) (h.W * h.H) h.At []
end Go.Proofs.YtgmgcfjllijhgaaGreat
