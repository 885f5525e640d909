/- Plain: what the pixels of a PNM file tell. -/
import Derived.Test.YtgmgcfjllijhgaaGreatPnmE
namespace Go.Proofs.YtgmgcfjllijhgaaGreat
set_option linter.unusedVariables false

/-- what a step tells: a fault's kind and place, or a result -/
abbrev Out (α : Type) := (Nat × Nat) ⊕ α
def Out.told {α : Type} (x : Out α) (k : α → DRes) : DRes := match x with
  | .inl b => .bad b.1 b.2
  | .inr r => k r
def Out.bind {α β : Type} (x : Out α) (f : α → Out β) : Out β := match x with
  | .inl b => .inl b
  | .inr r => f r
theorem Out.told_bind {α β : Type} (x : Out α) (f : α → Out β) (k : β → DRes) : (x.bind f).told k = x.told fun r => (f r).told k := by
  cases x <;> rfl
def smpR (s : ByteArray) (M a : Nat) : Out (UInt8 × Nat) :=
  if (numberAt (nats s) a).Kind ≠ 0 then .inl ((numberAt (nats s) a).Kind, (numberAt (nats s) a).Place) else if M < (numberAt (nats s) a).V then .inl (2, (numberAt (nats s) a).At) else .inr (smp8 (numberAt (nats s) a).V M, (numberAt (nats s) a).Next)
def bitR (s : ByteArray) (a : Nat) : Out (Qc × Nat) :=
  if (digitAt (nats s) a).Kind ≠ 0 then .inl ((digitAt (nats s) a).Kind, (digitAt (nats s) a).Place) else .inr (grayQ (UInt8.ofNat (255 * (1 - (digitAt (nats s) a).V))), (digitAt (nats s) a).Next)
def tpixR (s : ByteArray) (K M : Nat) (a : Nat) : Out (Qc × Nat) :=
  if K = 1 then bitR s a else if K = 3 then ((smpR s M a).bind fun r => (smpR s M r.2).bind fun g => (smpR s M g.2).bind fun b => .inr (⟨r.1, g.1, b.1, 255⟩, b.2)) else (smpR s M a).bind fun r => .inr (grayQ r.1, r.2)
def rsmpR (s : ByteArray) (q M a : Nat) : Out (UInt8 × Nat) := if a + q ≤ s.size then (if M < beN s a q then .inl (2, a) else .inr (smp8 (beN s a q) M, a + q)) else .inl (1, s.size)
def rpixR (s : ByteArray) (K q M : Nat) (a : Nat) : Out (Qc × Nat) :=
  if K = 6 then ((rsmpR s q M a).bind fun r => (rsmpR s q M r.2).bind fun g => (rsmpR s q M g.2).bind fun b => .inr (⟨r.1, g.1, b.1, 255⟩, b.2)) else (rsmpR s q M a).bind fun r => .inr (grayQ r.1, r.2)
def bpixR (s : ByteArray) (W : Nat) (t : Nat × Nat × Nat) : Out (Qc × Nat × Nat × Nat) :=
  if t.1 % 8 = 0 then (if t.2.1 < s.size then .inr (bitQ (bat s t.2.1) 0, (if t.1 + 1 = W then 0 else t.1 + 1), t.2.1 + 1, bat s t.2.1) else .inl (1, s.size))
  else .inr (bitQ t.2.2 (t.1 % 8), (if t.1 + 1 = W then 0 else t.1 + 1), t.2.1, t.2.2)
def pixsR {σ : Type} (W H : Nat) (step : σ → Out (Qc × σ)) : Nat → σ → List Qc → DRes
  | 0, _, L => .img W H (flat L)
  | m + 1, t, L => (step t).told fun r => pixsR W H step m r.2 (L ++ [r.1])
section
variable {s : ByteArray} {a z M q K W H : Nat}
theorem smpD_told {k : UInt8 × Nat → Dec} : (smpD s M a z k).told = (smpR s M a).told fun r => (k r).told := by
  unfold smpD smpR
  rw [numD_told, gotD_told]
  split
  · rfl
  · split <;> rfl
theorem bitD_told {k : Qc × Nat → Dec} : (bitD s a z k).told = (bitR s a).told fun r => (k r).told := by
  unfold bitD bitR
  rw [digD_told, gotD_told]
  split <;> rfl
theorem tpixD_told {k : Qc × Nat → Dec} : (tpixD s K M z a k).told = (tpixR s K M a).told fun r => (k r).told := by
  unfold tpixD tpixR
  by_cases h1 : K = 1
  · rw [if_pos h1, if_pos h1, bitD_told]
  · rw [if_neg h1, if_neg h1]
    by_cases h3 : K = 3
    · rw [if_pos h3, if_pos h3, smpD_told, Out.told_bind]
      congr 1; funext r
      rw [smpD_told, Out.told_bind]
      congr 1; funext g
      rw [smpD_told, Out.told_bind]
      rfl
    · rw [if_neg h3, if_neg h3, smpD_told, Out.told_bind]
      rfl
theorem rsmpD_told {k : UInt8 × Nat → Dec} : (rsmpD s q M a z k).told = (rsmpR s q M a).told fun r => (k r).told := by
  unfold rsmpR
  show (if a + q ≤ s.size then (if M < beN s a q then badD z 2 a else k (smp8 (beN s a q) M, a + q)) else badD z 1 s.size).told = _
  split
  · split <;> rfl
  · rfl
theorem rpixD_told {k : Qc × Nat → Dec} : (rpixD s K q M z a k).told = (rpixR s K q M a).told fun r => (k r).told := by
  unfold rpixD rpixR
  by_cases h3 : K = 6
  · rw [if_pos h3, if_pos h3, rsmpD_told, Out.told_bind]
    congr 1; funext r
    rw [rsmpD_told, Out.told_bind]
    congr 1; funext g
    rw [rsmpD_told, Out.told_bind]
    rfl
  · rw [if_neg h3, if_neg h3, rsmpD_told, Out.told_bind]
    rfl
theorem bpixD_told {t : Nat × Nat × Nat} {k : Qc × Nat × Nat × Nat → Dec} : (bpixD s W z t k).told = (bpixR s W t).told fun r => (k r).told := by
  unfold bpixD bpixR
  split
  · rw [byteD_told]
    split <;> rfl
  · rfl
theorem pixsD_told {σ : Type} {step : σ → (Qc × σ → Dec) → Dec} {stepR : σ → Out (Qc × σ)} {pl : σ → Nat} (h : ∀ t k, (step t k).told = (stepR t).told fun r => (k r).told) : ∀ (m : Nat) (t : σ) (L : List Qc), (pixsD W H z step pl m t L).told = pixsR W H stepR m t L
  | 0, t, L => rfl
  | m + 1, t, L => by
    show (step t _).told = _
    rw [h]
    show _ = (stepR t).told _
    congr 1; funext r
    exact pixsD_told h m r.2 (L ++ [r.1])
end
/-- what the pixels behind a head tell -/
def bodyR (s : ByteArray) (h : HeadR) : DRes :=
  if h.K ≤ 3 then pixsR h.W h.H (tpixR s h.K h.M) (h.W * h.H) h.At []
  else if h.K = 4 then pixsR h.W h.H (bpixR s h.W) (h.W * h.H) (0, h.At, 0) []
  else pixsR h.W h.H (rpixR s h.K (if 255 < h.M then 2 else 1) h.M) (h.W * h.H) h.At []
theorem bodyD_told (s : ByteArray) (h : HeadR) (z : Nat) : (bodyD s h z).told = bodyR s h := by
  unfold bodyD bodyR
  split
  · exact pixsD_told (step := tpixD s h.K h.M z) (stepR := tpixR s h.K h.M) (fun t k => tpixD_told) _ _ _
  · split
    · exact pixsD_told (step := bpixD s h.W z) (stepR := bpixR s h.W) (fun t k => bpixD_told) _ _ _
    · exact pixsD_told (step := rpixD s h.K (if 255 < h.M then 2 else 1) h.M z) (stepR := rpixR s h.K (if 255 < h.M then 2 else 1) h.M) (fun t k => rpixD_told) _ _ _
theorem pnmDec_told (s : ByteArray) : (pnmDec s).told = if (headAt (nats s)).Kind ≠ 0 then .bad (headAt (nats s)).Kind (headAt (nats s)).Place else bodyR s (headAt (nats s)) := by
  unfold pnmDec
  rw [headD_told]
  split
  · rfl
  · show (bodyD s (headAt (nats s)) _).told = _
    rw [bodyD_told]
end Go.Proofs.YtgmgcfjllijhgaaGreat
