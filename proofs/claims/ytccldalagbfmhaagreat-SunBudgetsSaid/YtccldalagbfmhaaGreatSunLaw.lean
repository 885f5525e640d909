/- Plain: a file of Sun's, as a decoder takes it. Plain: what the document tells of a file of Sun's, of all bytes of its rows at once, is what the decoder tells that takes them one by one. -/
import Derived.Test.YtccldalagbfmhaaGreatDecMore
namespace Go.Proofs.YtccldalagbfmhaaGreat
set_option linter.unusedVariables false

def sunW : List Nat := [89, 166, 106, 149]
def SunDepth (b : Nat) : Prop := b = 1 ∨ b = 8 ∨ b = 24 ∨ b = 32
instance (b : Nat) : Decidable (SunDepth b) := by unfold SunDepth; infer_instance
def SunMapped (k n : Nat) : Prop := (k = 0 ∧ n = 0) ∨ (k ≠ 0 ∧ 0 < n ∧ n ≤ 768 ∧ n % 3 = 0)
instance (k n : Nat) : Decidable (SunMapped k n) := by unfold SunMapped; infer_instance
def sunChks (W H d t mk mb : Nat) : List (Bool × Nat × Nat) := [
  (decide (W = 0), 2, 4), (decide (16384 < W), 3, 4), (decide (H = 0), 2, 8), (decide (16384 < H), 3, 8),
  (!decide (SunDepth d), 3, 12), (decide (3 < t), 3, 20), (decide (1 < mk), 3, 24), (!decide (SunMapped mk mb), 2, 28)]
def sunChecks (s : ByteArray) : List (Bool × Nat × Nat) := sunChks (beN s 4 4) (beN s 8 4) (beN s 12 4) (beN s 20 4) (beN s 24 4) (beN s 28 4)
def sunHead (s : ByteArray) : Option (Nat × Nat) := if offFrom s sunW 4 0 < 4 then some (2, offFrom s sunW 4 0) else firstBad (sunChecks s)
structure SunHd where
  W : Nat
  H : Nat
  bits : Nat
  typ : Nat
  n : Nat
def sunHd (s : ByteArray) : SunHd := ⟨beN s 4 4, beN s 8 4, beN s 12 4, beN s 20 4, beN s 28 4 / 3⟩
structure SunHd.Ok (h : SunHd) : Prop where
  w1 : 1 ≤ h.W
  w2 : h.W ≤ 16384
  h1 : 1 ≤ h.H
  h2 : h.H ≤ 16384
  d : SunDepth h.bits
  t : h.typ ≤ 3
  n : h.n ≤ 256
theorem sunHead_none {s : ByteArray} (h : sunHead s = none) : Off s sunW 0 4 4 ∧ (sunHd s).Ok ∧ beN s 24 4 ≤ 1 ∧ SunMapped (beN s 24 4) (beN s 28 4) := by
  have o := offFrom_is s sunW 4 0
  unfold sunHead at h
  by_cases hh : offFrom s sunW 4 0 < 4
  · rw [if_pos hh] at h; cases h
  · rw [if_neg hh] at h
    have e : offFrom s sunW 4 0 = 4 := by have := o.hi; omega
    rw [e] at o
    have a := firstBad_none h
    simp only [sunChecks, sunChks, List.mem_cons, List.not_mem_nil, or_false, forall_eq_or_imp, forall_eq, decide_eq_false_iff_not, Bool.not_eq_false', decide_eq_true_eq] at a
    obtain ⟨a1, a2, a3, a4, a5, a6, a7, a8⟩ := a
    have h8 : beN s 28 4 / 3 ≤ 256 := by unfold SunMapped at a8; omega
    exact ⟨o, ⟨by show 1 ≤ beN s 4 4; omega, by show beN s 4 4 ≤ 16384; omega, by show 1 ≤ beN s 8 4; omega, by show beN s 8 4 ≤ 16384; omega, a5, by show beN s 20 4 ≤ 3; omega, h8⟩, by omega, a8⟩
theorem sunHead_some {s : ByteArray} {f : Nat × Nat} (h : sunHead s = some f) : f.1 ≠ 0 ∧ f.1 ≠ 4 ∧ f.2 ≤ 28 := by
  unfold sunHead at h
  split at h
  · rename_i hh
    cases h
    exact ⟨by simp, by simp, by show offFrom s sunW 4 0 ≤ 28; omega⟩
  · unfold firstBad at h
    rw [Option.map_eq_some_iff] at h
    obtain ⟨x, hx, rfl⟩ := h
    have hm := List.mem_of_find?_eq_some hx
    simp only [sunChecks, sunChks, List.mem_cons, List.not_mem_nil, or_false] at hm
    rcases hm with rfl | rfl | rfl | rfl | rfl | rfl | rfl | rfl <;> exact ⟨by simp, by simp, by simp⟩

/-- where the bytes of rows are: a place; how often the last byte still stands, which it is, its packet's place -/
structure SunSt where
  a : Nat
  again : Nat
  last : Nat
  place : Nat
def SunSt.In (e : Nat) (t : SunSt) : Prop := t.a ≤ e ∧ t.place ≤ e
def sunShort (s : ByteArray) (z : Nat) : Dec := .give z (.fin (.bad 1 s.size))
section
variable (s : ByteArray) (pk : Bool) (z : Nat) (h : SunHd)
def sunNext (t : SunSt) (k : Nat → Nat → SunSt → Dec) : Dec :=
  if pk = true ∧ 0 < t.again then k t.last t.place ⟨t.a, t.again - 1, t.last, t.place⟩
  else .work 1 z t.a (if t.a + 1 ≤ s.size then
    (if pk = true ∧ bat s t.a = 128 then
      .work 1 z (t.a + 1) (if t.a + 1 + 1 ≤ s.size then
        (if bat s (t.a + 1) = 0 then k 128 t.a ⟨t.a + 2, t.again, t.last, t.place⟩
        else .work 1 z (t.a + 2) (if t.a + 2 + 1 ≤ s.size then k (bat s (t.a + 2)) t.a ⟨t.a + 3, bat s (t.a + 1), bat s (t.a + 2), t.a⟩ else sunShort s z))
      else sunShort s z)
    else k (bat s t.a) t.a ⟨t.a + 1, t.again, t.last, t.place⟩)
  else sunShort s z)
def sunGet (t : SunSt) : Option (Nat × Nat × SunSt) :=
  if pk = true ∧ 0 < t.again then some (t.last, t.place, ⟨t.a, t.again - 1, t.last, t.place⟩)
  else if t.a + 1 ≤ s.size then
    if pk = true ∧ bat s t.a = 128 then
      if t.a + 1 + 1 ≤ s.size then
        if bat s (t.a + 1) = 0 then some (128, t.a, ⟨t.a + 2, t.again, t.last, t.place⟩)
        else if t.a + 2 + 1 ≤ s.size then some (bat s (t.a + 2), t.a, ⟨t.a + 3, bat s (t.a + 1), bat s (t.a + 2), t.a⟩) else none
      else none
    else some (bat s t.a, t.a, ⟨t.a + 1, t.again, t.last, t.place⟩)
  else none
def qgray (v : Nat) : Qc := ⟨UInt8.ofNat v, UInt8.ofNat v, UInt8.ofNat v, 255⟩
/-- a number's colour, or none -/
def sunEnt (v : Nat) : Option Qc :=
  if h.n = 0 then some (qgray (if h.bits = 1 then 255 * (1 - v) else v))
  else if v < h.n then some ⟨b8 s (32 + v), b8 s (32 + h.n + v), b8 s (32 + 2 * h.n + v), 255⟩ else none
def sunEntry (v p : Nat) (k : Qc → Dec) : Dec := match sunEnt s h v with | some c => k c | none => .give z (.fin (.bad 2 p))
def sunQ (b1 b2 b3 : Nat) : Qc := if h.typ = 3 then ⟨UInt8.ofNat b1, UInt8.ofNat b2, UInt8.ofNat b3, 255⟩ else ⟨UInt8.ofNat b3, UInt8.ofNat b2, UInt8.ofNat b1, 255⟩
def sunCol3 (t : SunSt) (k : Qc → SunSt → Dec) : Dec :=
  sunNext s pk z t fun b1 _ t => sunNext s pk z t fun b2 _ t => sunNext s pk z t fun b3 _ t => k (sunQ h b1 b2 b3) t
def sunColor (t : SunSt) (k : Qc → SunSt → Dec) : Dec :=
  if h.bits = 32 then sunNext s pk z t fun _ _ t => sunCol3 s pk z h t k else sunCol3 s pk z h t k
def sunPixel (x v p : Nat) (t : SunSt) (k : Qc → Nat → Nat → SunSt → Dec) : Dec :=
  if 8 < h.bits then sunColor s pk z h t fun c t => k c v p t
  else if h.bits = 8 then sunNext s pk z t fun v p t => sunEntry s z h v p fun c => k c v p t
  else if x % 8 = 0 then sunNext s pk z t fun v p t => sunEntry s z h (v / 2 ^ (7 - x % 8) % 2) p fun c => k c v p t
  else sunEntry s z h (v / 2 ^ (7 - x % 8) % 2) p fun c => k c v p t
def sunFill : Nat → SunSt → (SunSt → Dec) → Dec
  | 0, t, k => k t
  | n + 1, t, k => sunNext s pk z t fun _ _ t => sunFill n t k
def sunRow (fill : Nat) : Nat → Nat → Nat → Nat → SunSt → List Qc → (SunSt → List Qc → Dec) → Dec
  | 0, x, v, p, t, L, k => sunFill s pk z fill t fun t => k t L
  | n + 1, x, v, p, t, L, k => sunPixel s pk z h x v p t fun c v p t => .work 1 z t.a (sunRow fill n (x + 1) v p t (L ++ [c]) k)
/-- the bytes that fill a row up -/
def sunFills : Nat := (h.W * h.bits + 15) / 16 * 2 - (h.W * h.bits + 7) / 8
def sunRows (m : Nat) : Nat → SunSt → List Qc → Dec
  | 0, t, L => .give m (.fin (.img h.W h.H (flat L)))
  | n + 1, t, L => sunRow s pk z h (sunFills h) h.W 0 0 0 t L fun t L => sunRows m n t L
end
def sunPix (s : ByteArray) (h : SunHd) (z : Nat) : Dec :=
  if h.n = 0 then sunRows s (decide (h.typ = 2)) z h 0 h.H ⟨32, 0, 0, 0⟩ []
  else .hold (4 * h.n) z 32 (.work 1 (z + 4 * h.n) 32 (if 32 + 3 * h.n ≤ s.size then sunRows s (decide (h.typ = 2)) (z + 4 * h.n) h (4 * h.n) h.H ⟨32 + 3 * h.n, 0, 0, 0⟩ [] else sunShort s (z + 4 * h.n)))
def sunBody (s : ByteArray) (h : SunHd) : Dec := .sides h.W h.H 32 (.take (4 * (h.W * h.H)) 32 (sunPix s h (4 * (h.W * h.H))))
def sunDec (s : ByteArray) : Dec :=
  .work 1 0 0 (if s.size < 32 then .fin (.bad 1 s.size) else match sunHead s with
    | some f => .fin (.bad f.1 f.2)
    | none => sunBody s (sunHd s))

section
variable {s : ByteArray} {pk : Bool} {z : Nat} {h : SunHd}
theorem sunShort_bal : (sunShort s z).bal s.size z := give_bal (by decide) (Nat.le_refl _)
theorem sunNext_bal {t : SunSt} {k : Nat → Nat → SunSt → Dec} (ht : t.In s.size) (hk : ∀ v p t', p ≤ s.size → t'.In s.size → (k v p t').bal s.size z) : (sunNext s pk z t k).bal s.size z := by
  obtain ⟨h1, h2⟩ := ht
  unfold sunNext
  split
  · exact hk _ _ _ h2 ⟨h1, h2⟩
  · refine ⟨rfl, h1, ?_⟩
    split
    · split
      · refine ⟨rfl, by omega, ?_⟩
        split
        · split
          · exact hk _ _ _ h1 ⟨by simp only; omega, h2⟩
          · refine ⟨rfl, by omega, ?_⟩
            split
            · exact hk _ _ _ h1 ⟨by simp only; omega, h1⟩
            · exact sunShort_bal
        · exact sunShort_bal
      · exact hk _ _ _ h1 ⟨by simp only; omega, h2⟩
    · exact sunShort_bal
theorem sunEntry_bal {v p : Nat} {k : Qc → Dec} (hp : p ≤ s.size) (hk : ∀ c, (k c).bal s.size z) : (sunEntry s z h v p k).bal s.size z := by
  unfold sunEntry
  split
  · exact hk _
  · exact give_bal (by decide) hp
theorem sunCol3_bal {t : SunSt} {k : Qc → SunSt → Dec} (ht : t.In s.size) (hk : ∀ c t', t'.In s.size → (k c t').bal s.size z) : (sunCol3 s pk z h t k).bal s.size z :=
  sunNext_bal ht fun _ _ _ _ h1 => sunNext_bal h1 fun _ _ _ _ h2 => sunNext_bal h2 fun _ _ _ _ h3 => hk _ _ h3
theorem sunColor_bal {t : SunSt} {k : Qc → SunSt → Dec} (ht : t.In s.size) (hk : ∀ c t', t'.In s.size → (k c t').bal s.size z) : (sunColor s pk z h t k).bal s.size z := by
  unfold sunColor
  split
  · exact sunNext_bal ht fun _ _ _ _ h1 => sunCol3_bal h1 hk
  · exact sunCol3_bal ht hk
theorem sunPixel_bal {x v p : Nat} {t : SunSt} {k : Qc → Nat → Nat → SunSt → Dec} (hp : p ≤ s.size) (ht : t.In s.size) (hk : ∀ c v p t', p ≤ s.size → t'.In s.size → (k c v p t').bal s.size z) : (sunPixel s pk z h x v p t k).bal s.size z := by
  unfold sunPixel
  split
  · exact sunColor_bal ht fun c t h1 => hk _ _ _ _ hp h1
  · split
    · exact sunNext_bal ht fun _ _ _ hp h1 => sunEntry_bal hp fun c => hk _ _ _ _ hp h1
    · split
      · exact sunNext_bal ht fun _ _ _ hp h1 => sunEntry_bal hp fun c => hk _ _ _ _ hp h1
      · exact sunEntry_bal hp fun c => hk _ _ _ _ hp ht
theorem sunFill_bal : ∀ n {t : SunSt} {k : SunSt → Dec}, t.In s.size → (∀ t', t'.In s.size → (k t').bal s.size z) → (sunFill s pk z n t k).bal s.size z := by
  intro n
  induction n with
  | zero => intro t k ht hk; exact hk _ ht
  | succ n ih => intro t k ht hk; exact sunNext_bal ht fun _ _ _ _ h1 => ih h1 hk
theorem sunRow_bal {fill : Nat} : ∀ n x v p {t : SunSt} {L : List Qc} {k : SunSt → List Qc → Dec}, p ≤ s.size → t.In s.size → (∀ t' L', t'.In s.size → L'.length = L.length + n → (k t' L').bal s.size z) → (sunRow s pk z h fill n x v p t L k).bal s.size z := by
  intro n
  induction n with
  | zero => intro x v p t L k hp ht hk; exact sunFill_bal _ ht fun t' h1 => hk _ _ h1 rfl
  | succ n ih =>
    intro x v p t L k hp ht hk
    refine sunPixel_bal hp ht fun c v p t' hp h1 => ⟨rfl, h1.1, ih _ _ _ hp h1 fun t' L' h2 h3 => hk _ _ h2 ?_⟩
    rw [h3, List.length_append]
    simp only [List.length_cons, List.length_nil]
    omega
theorem sunRows_bal {m : Nat} (hz : z = 4 * (h.W * h.H) + m) : ∀ n {t : SunSt} {L : List Qc}, t.In s.size → n ≤ h.H → L.length = h.W * (h.H - n) → (sunRows s pk z h m n t L).bal s.size z := by
  intro n
  induction n with
  | zero =>
    intro t L ht hn hL
    refine ⟨by omega, by omega, ?_⟩
    rw [flat_len, hL, Nat.sub_zero]
  | succ n ih =>
    intro t L ht hn hL
    refine sunRow_bal _ _ _ _ (Nat.zero_le _) ht fun t' L' h1 h2 => ih h1 (by omega) ?_
    rw [h2, hL]
    have e : h.H - n = h.H - (n + 1) + 1 := by omega
    rw [e, Nat.mul_add]
    omega
theorem sunPix_bal (hs : 32 ≤ s.size) : (sunPix s h (4 * (h.W * h.H))).bal s.size (4 * (h.W * h.H)) := by
  unfold sunPix
  split
  · exact sunRows_bal (m := 0) rfl h.H (t := ⟨32, 0, 0, 0⟩) (L := []) ⟨hs, Nat.zero_le _⟩ (Nat.le_refl _) (by simp)
  · refine ⟨rfl, hs, rfl, hs, ?_⟩
    split
    · rename_i h1
      exact sunRows_bal (m := 4 * h.n) rfl h.H (t := ⟨32 + 3 * h.n, 0, 0, 0⟩) (L := []) ⟨h1, Nat.zero_le _⟩ (Nat.le_refl _) (by simp)
    · exact sunShort_bal
theorem sunDec_bal (s : ByteArray) : (sunDec s).bal s.size 0 := by
  refine ⟨rfl, Nat.zero_le _, ?_⟩
  by_cases h : s.size < 32
  · rw [if_pos h]; exact ⟨rfl, by decide, Nat.le_refl _⟩
  · rw [if_neg h]
    have hk := @sunHead_some s
    generalize sunHead s = o at hk ⊢
    cases o with
    | none => exact ⟨rfl, by omega, rfl, by omega, by rw [Nat.zero_add]; exact sunPix_bal (by omega)⟩
    | some f => obtain ⟨h1, h2, h3⟩ := hk rfl; exact ⟨rfl, h2, by omega⟩
theorem sunShort_cost : (sunShort s z).cost = 0 := rfl
theorem one_nat : (1 : Int).toNat = 1 := rfl
theorem sunNext_cost {t : SunSt} {c : Nat} {k : Nat → Nat → SunSt → Dec} (hk : ∀ v p t', (k v p t').cost ≤ c) : (sunNext s pk z t k).cost ≤ 3 + c := by
  unfold sunNext
  split
  · have := hk t.last t.place ⟨t.a, t.again - 1, t.last, t.place⟩; omega
  · unfold Dec.cost
    split
    · split
      · unfold Dec.cost
        split
        · split
          · have := hk 128 t.a ⟨t.a + 2, t.again, t.last, t.place⟩; rw [one_nat]; omega
          · unfold Dec.cost
            split
            · have := hk (bat s (t.a + 2)) t.a ⟨t.a + 3, bat s (t.a + 1), bat s (t.a + 2), t.a⟩; rw [one_nat]; omega
            · rw [sunShort_cost, one_nat]; omega
        · rw [sunShort_cost, one_nat]; omega
      · have := hk (bat s t.a) t.a ⟨t.a + 1, t.again, t.last, t.place⟩; rw [one_nat]; omega
    · rw [sunShort_cost, one_nat]; omega
theorem sunEntry_cost {v p c : Nat} {k : Qc → Dec} (hk : ∀ q, (k q).cost ≤ c) : (sunEntry s z h v p k).cost ≤ c := by
  unfold sunEntry
  split
  · exact hk _
  · simp only [Dec.cost]; omega
theorem sunCol3_cost {t : SunSt} {c : Nat} {k : Qc → SunSt → Dec} (hk : ∀ q t', (k q t').cost ≤ c) : (sunCol3 s pk z h t k).cost ≤ 9 + c := by
  have h1 : ∀ b1 b2 t, (sunNext s pk z t fun b3 _ t => k (sunQ h b1 b2 b3) t).cost ≤ 3 + c := fun _ _ _ => sunNext_cost fun _ _ _ => hk _ _
  have h2 : ∀ b1 t, (sunNext s pk z t fun b2 _ t => sunNext s pk z t fun b3 _ t => k (sunQ h b1 b2 b3) t).cost ≤ 3 + (3 + c) := fun _ _ => sunNext_cost fun _ _ _ => h1 _ _ _
  have h3 : (sunCol3 s pk z h t k).cost ≤ 3 + (3 + (3 + c)) := sunNext_cost fun _ _ _ => h2 _ _
  omega
theorem sunColor_cost {t : SunSt} {c : Nat} {k : Qc → SunSt → Dec} (hk : ∀ q t', (k q t').cost ≤ c) : (sunColor s pk z h t k).cost ≤ 12 + c := by
  unfold sunColor
  split
  · have := sunNext_cost (s := s) (pk := pk) (z := z) (t := t) (c := 9 + c) (k := fun _ _ t => sunCol3 s pk z h t k) fun _ _ _ => sunCol3_cost hk
    omega
  · have := sunCol3_cost (s := s) (pk := pk) (z := z) (h := h) (t := t) hk
    omega
theorem sunPixel_cost {x v p : Nat} {t : SunSt} {c : Nat} {k : Qc → Nat → Nat → SunSt → Dec} (hk : ∀ q v p t', (k q v p t').cost ≤ c) : (sunPixel s pk z h x v p t k).cost ≤ 12 + c := by
  unfold sunPixel
  split
  · exact sunColor_cost fun _ _ => hk _ _ _ _
  · split
    · have := sunNext_cost (s := s) (pk := pk) (z := z) (t := t) (c := c) (k := fun v p t => sunEntry s z h v p fun c => k c v p t) fun _ _ _ => sunEntry_cost fun _ => hk _ _ _ _
      omega
    · split
      · have := sunNext_cost (s := s) (pk := pk) (z := z) (t := t) (c := c) (k := fun v p t => sunEntry s z h (v / 2 ^ (7 - x % 8) % 2) p fun c => k c v p t) fun _ _ _ => sunEntry_cost fun _ => hk _ _ _ _
        omega
      · have := sunEntry_cost (s := s) (z := z) (h := h) (v := v / 2 ^ (7 - x % 8) % 2) (p := p) (k := fun c => k c v p t) fun _ => hk _ _ _ _
        omega
theorem sunFill_cost {c : Nat} : ∀ n {t : SunSt} {k : SunSt → Dec}, (∀ t', (k t').cost ≤ c) → (sunFill s pk z n t k).cost ≤ 3 * n + c := by
  intro n
  induction n with
  | zero => intro t k hk; have := hk t; unfold sunFill; omega
  | succ n ih =>
    intro t k hk
    have := sunNext_cost (s := s) (pk := pk) (z := z) (t := t) (c := 3 * n + c) (k := fun _ _ t => sunFill s pk z n t k) fun _ _ _ => ih hk
    unfold sunFill
    omega
theorem sunRow_cost {fill c : Nat} : ∀ n x v p {t : SunSt} {L : List Qc} {k : SunSt → List Qc → Dec}, (∀ t' L', (k t' L').cost ≤ c) → (sunRow s pk z h fill n x v p t L k).cost ≤ 13 * n + 3 * fill + c := by
  intro n
  induction n with
  | zero =>
    intro x v p t L k hk
    have := sunFill_cost (s := s) (pk := pk) (z := z) (c := c) fill (t := t) (k := fun t => k t L) fun t' => hk _ _
    unfold sunRow
    omega
  | succ n ih =>
    intro x v p t L k hk
    have := sunPixel_cost (s := s) (pk := pk) (z := z) (h := h) (x := x) (v := v) (p := p) (t := t) (c := 1 + (13 * n + 3 * fill + c)) (k := fun c v p t => .work 1 z t.a (sunRow s pk z h fill n (x + 1) v p t (L ++ [c]) k)) fun q v p t' => by
      have := ih (x + 1) v p (t := t') (L := L ++ [q]) hk
      unfold Dec.cost
      rw [one_nat]
      omega
    unfold sunRow
    omega
theorem sunRows_cost {m : Nat} : ∀ n {t : SunSt} {L : List Qc}, (sunRows s pk z h m n t L).cost ≤ (13 * h.W + 3 * sunFills h) * n := by
  intro n
  induction n with
  | zero => intro t L; exact Nat.zero_le _
  | succ n ih =>
    intro t L
    have := sunRow_cost (s := s) (pk := pk) (z := z) (h := h) (fill := sunFills h) (c := (13 * h.W + 3 * sunFills h) * n) h.W 0 0 0 (t := t) (L := L) (k := fun t L => sunRows s pk z h m n t L) fun _ _ => ih
    unfold sunRows
    rw [Nat.mul_add, Nat.mul_one]
    omega
theorem sunNext_may {B w g : Int} {t : SunSt} {k : Nat → Nat → SunSt → Dec} (hk : ∀ v p t', (k v p t').may B w g) : (sunNext s pk z t k).may B w g := by
  unfold sunNext
  split
  · exact hk _ _ _
  · refine ⟨by decide, ?_⟩
    split
    · split
      · refine ⟨by decide, ?_⟩
        split
        · split
          · exact hk _ _ _
          · refine ⟨by decide, ?_⟩
            split
            · exact hk _ _ _
            · exact trivial
        · exact trivial
      · exact hk _ _ _
    · exact trivial
theorem sunEntry_may {B w g : Int} {v p : Nat} {k : Qc → Dec} (hk : ∀ q, (k q).may B w g) : (sunEntry s z h v p k).may B w g := by
  unfold sunEntry
  split
  · exact hk _
  · exact trivial
theorem sunCol3_may {B w g : Int} {t : SunSt} {k : Qc → SunSt → Dec} (hk : ∀ q t', (k q t').may B w g) : (sunCol3 s pk z h t k).may B w g :=
  sunNext_may fun _ _ _ => sunNext_may fun _ _ _ => sunNext_may fun _ _ _ => hk _ _
theorem sunPixel_may {B w g : Int} {x v p : Nat} {t : SunSt} {k : Qc → Nat → Nat → SunSt → Dec} (hk : ∀ q v p t', (k q v p t').may B w g) : (sunPixel s pk z h x v p t k).may B w g := by
  unfold sunPixel sunColor
  split
  · split
    · exact sunNext_may fun _ _ _ => sunCol3_may fun _ _ => hk _ _ _ _
    · exact sunCol3_may fun _ _ => hk _ _ _ _
  · split
    · exact sunNext_may fun _ _ _ => sunEntry_may fun _ => hk _ _ _ _
    · split
      · exact sunNext_may fun _ _ _ => sunEntry_may fun _ => hk _ _ _ _
      · exact sunEntry_may fun _ => hk _ _ _ _
theorem sunFill_may {B w g : Int} : ∀ n {t : SunSt} {k : SunSt → Dec}, (∀ t', (k t').may B w g) → (sunFill s pk z n t k).may B w g := by
  intro n
  induction n with
  | zero => intro t k hk; exact hk t
  | succ n ih => intro t k hk; exact sunNext_may fun _ _ _ => ih hk
theorem sunRow_may {B w g : Int} {fill : Nat} : ∀ n x v p {t : SunSt} {L : List Qc} {k : SunSt → List Qc → Dec}, (∀ t' L', (k t' L').may B w g) → (sunRow s pk z h fill n x v p t L k).may B w g := by
  intro n
  induction n with
  | zero => intro x v p t L k hk; exact sunFill_may _ fun t' => hk _ _
  | succ n ih => intro x v p t L k hk; exact sunPixel_may fun q v p t' => ⟨by decide, ih _ _ _ hk⟩
theorem sunRows_may {B w g : Int} {m : Nat} : ∀ n {t : SunSt} {L : List Qc}, (sunRows s pk z h m n t L).may B w g := by
  intro n
  induction n with
  | zero => intro t L; exact trivial
  | succ n ih => intro t L; exact sunRow_may _ _ _ _ fun _ _ => ih
end
/-- the sides that a head tells, or noughts -/
def sunSides (s : ByteArray) : Nat × Nat := if s.size < 32 then (0, 0) else match sunHead s with | some _ => (0, 0) | none => (beN s 4 4, beN s 8 4)
/-- what is enough for small images -/
theorem sunDec_enough (s : ByteArray) (hw : (sunSides s).1 ≤ 60) (hh : (sunSides s).2 ≤ 60) : (sunDec s).cost ≤ 100000 ∧ (sunDec s).may 262144 16384 16384 := by
  unfold sunDec Dec.cost Dec.may
  unfold sunSides at hw hh
  by_cases h : s.size < 32
  · rw [if_pos h]; exact ⟨by unfold Dec.cost; decide, by decide, trivial⟩
  · rw [if_neg h] at hw hh ⊢
    have hk := @sunHead_none s
    generalize sunHead s = o at hk hw hh ⊢
    cases o with
    | some f => exact ⟨by unfold Dec.cost; decide, by decide, trivial⟩
    | none =>
      obtain ⟨_, ok, _, _⟩ := hk rfl
      have hW : (sunHd s).W ≤ 60 := hw
      have hH : (sunHd s).H ≤ 60 := hh
      simp only
      generalize sunHd s = g at ok hW hH ⊢
      have hp : g.W * g.H ≤ 3600 := Nat.mul_le_mul hW hH
      have hd : g.bits ≤ 32 := by have := ok.d; unfold SunDepth at this; omega
      have hf : sunFills g ≤ 2 := by unfold sunFills; omega
      have hb : (13 * g.W + 3 * sunFills g) * g.H ≤ 786 * 60 := Nat.mul_le_mul (by omega) hH
      have hn := ok.n
      refine ⟨?_, by decide, ⟨by have := ok.w1; omega, by omega⟩, ⟨by have := ok.h1; omega, by omega⟩, by omega, ?_⟩
      · show (1 : Int).toNat + (sunBody s g).cost ≤ _
        unfold sunBody Dec.cost Dec.cost sunPix
        rw [one_nat]
        split
        · have := sunRows_cost (s := s) (pk := decide (g.typ = 2)) (z := 4 * (g.W * g.H)) (h := g) (m := 0) g.H (t := ⟨32, 0, 0, 0⟩) (L := [])
          omega
        · unfold Dec.cost Dec.cost
          split
          · have := sunRows_cost (s := s) (pk := decide (g.typ = 2)) (z := 4 * (g.W * g.H) + 4 * g.n) (h := g) (m := 4 * g.n) g.H (t := ⟨32 + 3 * g.n, 0, 0, 0⟩) (L := [])
            rw [one_nat]
            omega
          · rw [sunShort_cost, one_nat]; omega
      · unfold sunPix
        split
        · exact sunRows_may _
        · refine ⟨by omega, by decide, ?_⟩
          split
          · exact sunRows_may _
          · exact trivial
end Go.Proofs.YtccldalagbfmhaaGreat
namespace Go.Proofs.YtccldalagbfmhaaGreat
set_option linter.unusedVariables false

/-- the bytes of rows from a state on, each with its packet's place: so many, or as many as there are -/
def sunExp (s : ByteArray) (pk : Bool) : Nat → SunSt → List (Nat × Nat)
  | 0, _ => []
  | n + 1, t => match sunGet s pk t with
    | none => []
    | some (v, p, t') => (v, p) :: sunExp s pk n t'
theorem sunShort_told (s : ByteArray) (z : Nat) : (sunShort s z).told = .bad 1 s.size := rfl
theorem sunNext_told {s : ByteArray} {pk : Bool} {z : Nat} {t : SunSt} {k : Nat → Nat → SunSt → Dec} :
    (sunNext s pk z t k).told = match sunGet s pk t with | some (v, p, t') => (k v p t').told | none => .bad 1 s.size := by
  unfold sunNext sunGet
  by_cases h1 : pk = true ∧ 0 < t.again
  · rw [if_pos h1, if_pos h1]
  · rw [if_neg h1, if_neg h1, Dec.told]
    by_cases h2 : t.a + 1 ≤ s.size
    · rw [if_pos h2, if_pos h2]
      by_cases h3 : pk = true ∧ bat s t.a = 128
      · rw [if_pos h3, if_pos h3, Dec.told]
        by_cases h4 : t.a + 1 + 1 ≤ s.size
        · rw [if_pos h4, if_pos h4]
          by_cases h5 : bat s (t.a + 1) = 0
          · rw [if_pos h5, if_pos h5]
          · rw [if_neg h5, if_neg h5, Dec.told]
            by_cases h6 : t.a + 2 + 1 ≤ s.size
            · rw [if_pos h6, if_pos h6]
            · rw [if_neg h6, if_neg h6]; rfl
        · rw [if_neg h4, if_neg h4]; rfl
      · rw [if_neg h3, if_neg h3]
    · rw [if_neg h2, if_neg h2]; rfl
def zv (Z : List (Nat × Nat)) (i : Nat) : Nat := (Z.getD i (0, 0)).1
def zp (Z : List (Nat × Nat)) (i : Nat) : Nat := (Z.getD i (0, 0)).2
/-- the state behind i of the bytes -/
structure SAt (s : ByteArray) (pk : Bool) (N : Nat) (Z : List (Nat × Nat)) (i : Nat) (t : SunSt) : Prop where
  le : i ≤ N
  eq : sunExp s pk (N - i) t = Z.drop i
section
variable {s : ByteArray} {pk : Bool} {N i : Nat} {Z : List (Nat × Nat)} {t : SunSt}
theorem SAt.next (h : SAt s pk N Z i t) (hi : i < N) :
    (Z.length ≤ i ∧ ∀ z k, (sunNext s pk z t k).told = .bad 1 s.size) ∨ (i < Z.length ∧ ∃ t', SAt s pk N Z (i + 1) t' ∧ ∀ z k, (sunNext s pk z t k).told = (k (zv Z i) (zp Z i) t').told) := by
  have e := h.eq
  obtain ⟨m, hm⟩ : ∃ m, N - i = m + 1 := ⟨N - i - 1, by omega⟩
  rw [hm, sunExp] at e
  cases hg : sunGet s pk t with
  | none =>
    rw [hg] at e
    refine .inl ⟨?_, fun z k => by rw [sunNext_told, hg]⟩
    have := congrArg List.length e
    rw [List.length_drop, List.length_nil] at this
    omega
  | some x =>
    obtain ⟨v, p, t'⟩ := x
    rw [hg] at e
    simp only at e
    have hl := congrArg List.length e
    rw [List.length_drop, List.length_cons] at hl
    have hlt : i < Z.length := by omega
    have hat : Z[i]? = some (v, p) := by
      have := congrArg (fun l => l[0]?) e
      simp only [List.getElem?_cons_zero, List.getElem?_drop, Nat.add_zero] at this
      exact this.symm
    refine .inr ⟨hlt, t', ⟨hi, ?_⟩, fun z k => ?_⟩
    · have := congrArg List.tail e
      rw [List.tail_cons, List.tail_drop] at this
      rw [show N - (i + 1) = m by omega]
      exact this
    · rw [sunNext_told, hg]
      unfold zv zp
      rw [List.getD_eq_getElem?_getD, hat]
      rfl
theorem SAt.col3 {h : SunHd} (a : SAt s pk N Z i t) (hi : i + 3 ≤ N) :
    (Z.length < i + 3 ∧ ∀ z k, (sunCol3 s pk z h t k).told = .bad 1 s.size) ∨ (i + 3 ≤ Z.length ∧ ∃ t', SAt s pk N Z (i + 3) t' ∧ ∀ z k, (sunCol3 s pk z h t k).told = (k (sunQ h (zv Z i) (zv Z (i + 1)) (zv Z (i + 2))) t').told) := by
  unfold sunCol3
  rcases a.next (by omega) with ⟨l1, e1⟩ | ⟨l1, t1, a1, e1⟩
  · exact .inl ⟨by omega, fun z k => e1 _ _⟩
  rcases a1.next (by omega) with ⟨l2, e2⟩ | ⟨l2, t2, a2, e2⟩
  · exact .inl ⟨by omega, fun z k => by rw [e1, e2]⟩
  rcases a2.next (by omega) with ⟨l3, e3⟩ | ⟨l3, t3, a3, e3⟩
  · exact .inl ⟨by omega, fun z k => by rw [e1, e2, e3]⟩
  · exact .inr ⟨by omega, t3, a3, fun z k => by rw [e1, e2, e3]⟩
end
/-- how many bytes a row has, and a pixel -/
def sunLine (h : SunHd) : Nat := (h.W * h.bits + 15) / 16 * 2
def sunSize (h : SunHd) : Nat := if 8 < h.bits then h.bits / 8 else 1
/-- a pixel's colour, of its first byte on, or none -/
def sunColAt (s : ByteArray) (h : SunHd) (Z : List (Nat × Nat)) (a x : Nat) : Option Qc :=
  if 8 < h.bits then (if h.bits = 32 then some (sunQ h (zv Z (a + 1)) (zv Z (a + 2)) (zv Z (a + 3))) else some (sunQ h (zv Z a) (zv Z (a + 1)) (zv Z (a + 2))))
  else sunEnt s h (if h.bits = 1 then zv Z a / 2 ^ (7 - x % 8) % 2 else zv Z a)
section
variable {s : ByteArray} {pk : Bool} {N i : Nat} {Z : List (Nat × Nat)} {t : SunSt} {h : SunHd}
theorem sunEntry_told {z v p : Nat} {k : Qc → Dec} : (sunEntry s z h v p k).told = match sunEnt s h v with | some c => (k c).told | none => .bad 2 p := by
  unfold sunEntry
  cases sunEnt s h v with
  | some c => rfl
  | none => rfl
/-- the byte of a row's pixels that is still read from -/
def SKeep (h : SunHd) (Z : List (Nat × Nat)) (b x v p : Nat) : Prop := h.bits = 1 → x % 8 ≠ 0 → b + x / 8 < Z.length ∧ v = zv Z (b + x / 8) ∧ p = zp Z (b + x / 8)
theorem SAt.pixel (hd : SunDepth h.bits) {b x v p : Nat} (a : SAt s pk N Z (b + (x * h.bits + 7) / 8) t) (kp : SKeep h Z b x v p) (hi : b + ((x + 1) * h.bits + 7) / 8 ≤ N) :
    (Z.length < b + x * h.bits / 8 + sunSize h ∧ ∀ z k, (sunPixel s pk z h x v p t k).told = .bad 1 s.size) ∨
    (b + x * h.bits / 8 + sunSize h ≤ Z.length ∧ ∃ v' p' t', SAt s pk N Z (b + ((x + 1) * h.bits + 7) / 8) t' ∧ SKeep h Z b (x + 1) v' p' ∧
      ∀ z k, (sunPixel s pk z h x v p t k).told = match sunColAt s h Z (b + x * h.bits / 8) x with | some c => (k c v' p' t').told | none => .bad 2 (zp Z (b + x * h.bits / 8))) := by
  unfold sunPixel sunColAt sunSize
  rw [Nat.add_mul, Nat.one_mul] at hi ⊢
  rcases hd with hd | hd | hd | hd
  · -- one bit
    rw [hd] at a hi ⊢
    rw [Nat.mul_one] at a hi ⊢
    rw [if_neg (by omega), if_neg (by omega)]
    by_cases h8 : x % 8 = 0
    · have e0 : b + (x + 7) / 8 = b + x / 8 := by omega
      have e1 : b + (x + 1 + 7) / 8 = b + x / 8 + 1 := by omega
      rw [e0] at a
      rw [e1] at hi ⊢
      rcases a.next (by omega) with ⟨l1, n1⟩ | ⟨l1, t1, a1, n1⟩
      · exact .inl ⟨by omega, fun z k => by rw [if_neg (by omega), if_neg (by omega), if_pos h8, n1]⟩
      · refine .inr ⟨by omega, zv Z (b + x / 8), zp Z (b + x / 8), t1, a1, fun _ h9 => ⟨by rw [show (x + 1) / 8 = x / 8 by omega]; exact l1, by rw [show (x + 1) / 8 = x / 8 by omega], by rw [show (x + 1) / 8 = x / 8 by omega]⟩, fun z k => ?_⟩
        rw [if_neg (by omega), if_neg (by omega), if_pos h8, n1, sunEntry_told, if_pos rfl]
    · have e1 : b + (x + 1 + 7) / 8 = b + (x + 7) / 8 := by omega
      obtain ⟨k1, k2, k3⟩ := kp hd h8
      refine .inr ⟨by omega, v, p, t, by rw [e1]; exact a, fun _ h9 => ⟨by rw [show (x + 1) / 8 = x / 8 by omega]; exact k1, by rw [show (x + 1) / 8 = x / 8 by omega]; exact k2, by rw [show (x + 1) / 8 = x / 8 by omega]; exact k3⟩, fun z k => ?_⟩
      rw [if_neg (by omega), if_neg (by omega), if_neg h8, sunEntry_told, if_pos rfl, ← k2, ← k3]
  · rw [hd] at a hi ⊢
    rw [if_neg (by omega), if_neg (by omega)]
    have e0 : b + (x * 8 + 7) / 8 = b + x * 8 / 8 := by omega
    have e1 : b + (x * 8 + 8 + 7) / 8 = b + x * 8 / 8 + 1 := by omega
    rw [e0] at a
    rw [e1] at hi ⊢
    rcases a.next (by omega) with ⟨l1, n1⟩ | ⟨l1, t1, a1, n1⟩
    · exact .inl ⟨by omega, fun z k => by rw [if_neg (by omega), if_pos rfl, n1]⟩
    · refine .inr ⟨by omega, zv Z (b + x * 8 / 8), zp Z (b + x * 8 / 8), t1, a1, fun h1 => by omega, fun z k => ?_⟩
      rw [if_neg (by omega), if_pos rfl, n1, sunEntry_told, if_neg (by omega)]
  · rw [hd] at a hi ⊢
    rw [if_pos (by omega), if_pos (by omega), if_neg (by omega)]
    have e0 : b + (x * 24 + 7) / 8 = b + x * 24 / 8 := by omega
    have e1 : b + (x * 24 + 24 + 7) / 8 = b + x * 24 / 8 + 3 := by omega
    rw [e0] at a
    rw [e1] at hi ⊢
    rcases a.col3 (h := h) (by omega) with ⟨l1, n1⟩ | ⟨l1, t1, a1, n1⟩
    · exact .inl ⟨by omega, fun z k => by rw [if_pos (by omega)]; unfold sunColor; rw [if_neg (by omega), n1]⟩
    · refine .inr ⟨by omega, v, p, t1, a1, fun h1 => by omega, fun z k => ?_⟩
      rw [if_pos (by omega)]; unfold sunColor; rw [if_neg (by omega), n1]
  · rw [hd] at a hi ⊢
    rw [if_pos (by omega), if_pos (by omega), if_pos rfl]
    have e0 : b + (x * 32 + 7) / 8 = b + x * 32 / 8 := by omega
    have e1 : b + (x * 32 + 32 + 7) / 8 = b + x * 32 / 8 + 4 := by omega
    rw [e0] at a
    rw [e1] at hi ⊢
    rcases a.next (by omega) with ⟨l1, n1⟩ | ⟨l1, t1, a1, n1⟩
    · exact .inl ⟨by omega, fun z k => by rw [if_pos (by omega)]; unfold sunColor; rw [if_pos hd, n1]⟩
    rcases a1.col3 (h := h) (by omega) with ⟨l2, n2⟩ | ⟨l2, t2, a2, n2⟩
    · exact .inl ⟨by omega, fun z k => by rw [if_pos (by omega)]; unfold sunColor; rw [if_pos hd, n1, n2]⟩
    · refine .inr ⟨by omega, v, p, t2, a2, fun h1 => by omega, fun z k => ?_⟩
      rw [if_pos (by omega)]; unfold sunColor; rw [if_pos hd, n1, n2]
theorem SAt.fill : ∀ n {i : Nat} {t : SunSt}, SAt s pk N Z i t → i + n ≤ N → (Z.length < i + n ∧ 0 < n ∧ ∀ z k, (sunFill s pk z n t k).told = .bad 1 s.size) ∨ ((i + n ≤ Z.length ∨ n = 0) ∧ ∃ t', SAt s pk N Z (i + n) t' ∧ ∀ z k, (sunFill s pk z n t k).told = (k t').told) := by
  intro n
  induction n with
  | zero => intro i t a _; exact .inr ⟨.inr rfl, t, a, fun z k => rfl⟩
  | succ n ih =>
    intro i t a hi
    unfold sunFill
    rcases a.next (by omega) with ⟨l1, n1⟩ | ⟨l1, t1, a1, n1⟩
    · exact .inl ⟨by omega, by omega, fun z k => n1 _ _⟩
    rcases ih a1 (by omega) with ⟨l2, _, n2⟩ | ⟨l2, t2, a2, n2⟩
    · exact .inl ⟨by omega, by omega, fun z k => by rw [n1, n2]⟩
    · exact .inr ⟨.inl (by omega), t2, by rw [show i + (n + 1) = i + 1 + n by omega]; exact a2, fun z k => by rw [n1, n2]⟩
end
/-- where a pixel's first byte is -/
def sunPlace (h : SunHd) (k : Nat) : Nat := k / h.W * sunLine h + k % h.W * h.bits / 8
/-- the document's way -/
def sunPix2 (s : ByteArray) (h : SunHd) (Z : List (Nat × Nat)) : Nat → Nat → List Qc → DRes
  | 0, _, L => if Z.length < sunLine h * h.H then .bad 1 s.size else .img h.W h.H (flat L)
  | n + 1, k, L => if Z.length < sunPlace h k + sunSize h then .bad 1 s.size else match sunColAt s h Z (sunPlace h k) (k % h.W) with
    | some c => sunPix2 s h Z n (k + 1) (L ++ [c])
    | none => .bad 2 (zp Z (sunPlace h k))
section
variable {s : ByteArray} {pk : Bool} {Z : List (Nat × Nat)} {h : SunHd}
theorem sunSize_pos (hd : SunDepth h.bits) : 1 ≤ sunSize h := by unfold sunSize; unfold SunDepth at hd; split <;> omega
theorem sunPlace_at {y x : Nat} (hx : x < h.W) : sunPlace h (y * h.W + x) = y * sunLine h + x * h.bits / 8 ∧ (y * h.W + x) % h.W = x := by
  have h1 : (y * h.W + x) / h.W = y := by rw [Nat.add_comm, Nat.add_mul_div_right _ _ (by omega), Nat.div_eq_of_lt hx, Nat.zero_add]
  have h2 : (y * h.W + x) % h.W = x := by rw [Nat.add_comm, Nat.add_mul_mod_self_right, Nat.mod_eq_of_lt hx]
  exact ⟨by unfold sunPlace; rw [h1, h2], h2⟩
theorem sunPix2_short (ok : h.Ok) {n y : Nat} {L : List Qc} (hy : y + n = h.H) (hz : Z.length < y * sunLine h) : sunPix2 s h Z (n * h.W) (y * h.W) L = .bad 1 s.size := by
  have w1 := ok.w1
  cases n with
  | zero =>
    rw [Nat.zero_mul, sunPix2, if_pos]
    rw [Nat.add_zero] at hy
    rw [← hy, Nat.mul_comm]
    exact hz
  | succ n =>
    obtain ⟨m, hm⟩ : ∃ m, (n + 1) * h.W = m + 1 := ⟨(n + 1) * h.W - 1, by have : 1 * 1 ≤ (n + 1) * h.W := Nat.mul_le_mul (by omega) w1; omega⟩
    have hp := (sunPlace_at (h := h) (y := y) (x := 0) (by omega)).1
    rw [Nat.add_zero] at hp
    rw [hm, sunPix2, if_pos]
    rw [hp]
    have := sunSize_pos ok.d
    omega
theorem sunRows_told (ok : h.Ok) {m z : Nat} : ∀ n {t : SunSt} {L : List Qc} {y : Nat}, y + n = h.H → SAt s pk (sunLine h * h.H) Z (y * sunLine h) t → (y = 0 ∨ y * sunLine h ≤ Z.length) →
    (sunRows s pk z h m n t L).told = sunPix2 s h Z (n * h.W) (y * h.W) L := by
  intro n
  induction n with
  | zero =>
    intro t L y hy a hz
    have h1 := ok.h1
    rw [Nat.zero_mul, sunPix2, if_neg]
    · rfl
    · rw [Nat.add_zero] at hy
      rw [← hy, Nat.mul_comm]
      rcases hz with hz | hz
      · omega
      · omega
  | succ n ih =>
    intro t L y hy a hz
    unfold sunRows
    have hrow : ∀ r x v p {t : SunSt} {L : List Qc}, x + r = h.W → SAt s pk (sunLine h * h.H) Z (y * sunLine h + (x * h.bits + 7) / 8) t → SKeep h Z (y * sunLine h) x v p → (0 < x → y * sunLine h + (x * h.bits + 7) / 8 ≤ Z.length) →
        (sunRow s pk z h (sunFills h) r x v p t L fun t L => sunRows s pk z h m n t L).told = sunPix2 s h Z (r + n * h.W) (y * h.W + x) L := by
      have hN : (y + 1) * sunLine h ≤ sunLine h * h.H := by rw [Nat.mul_comm (sunLine h)]; exact Nat.mul_le_mul_right _ (by omega)
      rw [Nat.add_mul, Nat.one_mul] at hN
      intro r
      induction r with
      | zero =>
        intro x v p t L hx a kp hzx
        rw [Nat.add_zero] at hx
        subst hx
        unfold sunRow
        have hf : y * sunLine h + (h.W * h.bits + 7) / 8 + sunFills h = (y + 1) * sunLine h := by
          rw [Nat.add_mul, Nat.one_mul]
          unfold sunFills sunLine
          omega
        have e1 : y * h.W + h.W = (y + 1) * h.W := by rw [Nat.add_mul, Nat.one_mul]
        rw [Nat.zero_add, e1]
        rcases a.fill (sunFills h) (by rw [hf, Nat.add_mul, Nat.one_mul]; exact hN) with ⟨l1, _, n1⟩ | ⟨l1, t1, a1, n1⟩
        · rw [n1, sunPix2_short ok (by omega) (by rw [← hf]; exact l1)]
        · rw [n1]
          rw [hf] at a1 l1
          refine ih (by omega) a1 (.inr ?_)
          rcases l1 with l1 | l1
          · exact l1
          · rw [l1, Nat.add_zero] at hf
            rw [← hf]
            exact hzx ok.w1
      | succ r ihr =>
        intro x v p t L hx a kp hzx
        have hxW : x < h.W := by omega
        have hle : ((x + 1) * h.bits + 7) / 8 ≤ sunLine h := by
          have : (x + 1) * h.bits ≤ h.W * h.bits := Nat.mul_le_mul_right _ (by omega)
          unfold sunLine
          omega
        obtain ⟨p1, p2⟩ := sunPlace_at (h := h) (y := y) (x := x) hxW
        unfold sunRow
        rw [show r + 1 + n * h.W = r + n * h.W + 1 by omega, sunPix2, p1, p2]
        rcases a.pixel ok.d kp (by omega) with ⟨l1, n1⟩ | ⟨l1, v', p', t1, a1, kp1, n1⟩
        · rw [n1, if_pos l1]
        · rw [n1, if_neg (by omega)]
          cases sunColAt s h Z (y * sunLine h + x * h.bits / 8) x with
          | none => rfl
          | some c =>
            simp only
            rw [Dec.told]
            refine ihr (x + 1) v' p' (by omega) a1 kp1 fun _ => ?_
            have hd := ok.d
            unfold sunSize at l1
            rw [Nat.add_mul, Nat.one_mul]
            rcases hd with hd | hd | hd | hd <;> rw [hd] at l1 ⊢
            · rw [if_neg (by omega)] at l1; omega
            · rw [if_neg (by omega)] at l1; omega
            · rw [if_pos (by omega)] at l1; omega
            · rw [if_pos (by omega)] at l1; omega
    have := hrow h.W 0 0 0 (t := t) (L := L) (by omega) (by rw [Nat.zero_mul]; exact a) (fun _ h0 => absurd rfl h0) (fun h0 => absurd h0 (by omega))
    rw [this, Nat.add_zero, Nat.add_mul, Nat.one_mul, Nat.add_comm]
end
/-- all bytes of the rows -/
def sunZ (s : ByteArray) (h : SunHd) : List (Nat × Nat) := sunExp s (decide (h.typ = 2)) (sunLine h * h.H) ⟨32 + 3 * h.n, 0, 0, 0⟩
theorem sunDec_told (s : ByteArray) : (sunDec s).told = if s.size < 32 then .bad 1 s.size else match sunHead s with
    | some f => .bad f.1 f.2
    | none => if 32 + 3 * (sunHd s).n ≤ s.size then sunPix2 s (sunHd s) (sunZ s (sunHd s)) ((sunHd s).W * (sunHd s).H) 0 [] else .bad 1 s.size := by
  unfold sunDec
  rw [Dec.told]
  by_cases h : s.size < 32
  · rw [if_pos h, if_pos h]; rfl
  · rw [if_neg h, if_neg h]
    have hk := @sunHead_none s
    generalize sunHead s = o at hk ⊢
    cases o with
    | some f => rfl
    | none =>
      obtain ⟨_, ok, _, _⟩ := hk rfl
      simp only
      generalize sunHd s = g at ok ⊢
      unfold sunBody
      rw [Dec.told, Dec.told]
      unfold sunPix
      have key : ∀ z m, (sunRows s (decide (g.typ = 2)) z g m g.H ⟨32 + 3 * g.n, 0, 0, 0⟩ []).told = sunPix2 s g (sunZ s g) (g.W * g.H) 0 [] := by
        intro z m
        rw [sunRows_told ok g.H (y := 0) (Z := sunZ s g) (by omega) ⟨by omega, by rw [Nat.zero_mul, Nat.sub_zero, List.drop_zero]; rfl⟩ (.inl rfl), Nat.zero_mul, Nat.mul_comm]
      by_cases hn : g.n = 0
      · rw [if_pos hn, if_pos (by omega), ← key (4 * (g.W * g.H)) 0, hn]
      · rw [if_neg hn, Dec.told, Dec.told]
        by_cases hc : 32 + 3 * g.n ≤ s.size
        · rw [if_pos hc, if_pos hc, key]
        · rw [if_neg hc, if_neg hc]; rfl
section
variable {s : ByteArray} {pk : Bool}
theorem sunExp_zero : ∀ n {a v p v' p' : Nat}, sunExp s pk n ⟨a, 0, v, p⟩ = sunExp s pk n ⟨a, 0, v', p'⟩ := by
  intro n
  induction n with
  | zero => intros; rfl
  | succ n ih =>
    intro a v p v' p'
    have h0 : ¬ (pk = true ∧ 0 < 0) := by omega
    unfold sunExp sunGet
    simp only
    rw [if_neg h0, if_neg h0]
    by_cases h2 : a + 1 ≤ s.size
    · rw [if_pos h2, if_pos h2]
      by_cases h3 : pk = true ∧ bat s a = 128
      · rw [if_pos h3, if_pos h3]
        by_cases h4 : a + 1 + 1 ≤ s.size
        · rw [if_pos h4, if_pos h4]
          by_cases h5 : bat s (a + 1) = 0
          · rw [if_pos h5, if_pos h5]
            simp only
            rw [ih]
          · rw [if_neg h5, if_neg h5]
        · rw [if_neg h4, if_neg h4]
      · rw [if_neg h3, if_neg h3]
        simp only
        rw [ih]
    · rw [if_neg h2, if_neg h2]
theorem sunExp_again : ∀ c n {a v p : Nat}, sunExp s true n ⟨a, c, v, p⟩ = List.replicate (min c n) (v, p) ++ sunExp s true (n - c) ⟨a, 0, v, p⟩ := by
  intro c
  induction c with
  | zero => intro n a v p; simp
  | succ c ih =>
    intro n a v p
    cases n with
    | zero => simp [sunExp]
    | succ n =>
      have e : sunExp s true (n + 1) ⟨a, c + 1, v, p⟩ = (v, p) :: sunExp s true n ⟨a, c, v, p⟩ := by
        conv => lhs; unfold sunExp sunGet
        simp only
        rw [if_pos ⟨trivial, by omega⟩]
        rfl
      rw [e, ih, show min (c + 1) (n + 1) = min c n + 1 by omega, List.replicate_succ, show n + 1 - (c + 1) = n - c by omega]
      rfl
/-- a packet: its value, how many bytes it stands for, its size -/
def sunPkt (s : ByteArray) (pk : Bool) (a : Nat) : Option (Nat × Nat × Nat) :=
  if a < s.size then
    if pk = true ∧ bat s a = 128 then
      if a + 1 < s.size then
        if bat s (a + 1) = 0 then some (128, 1, 2)
        else if a + 2 < s.size then some (bat s (a + 2), bat s (a + 1) + 1, 3) else none
      else none
    else some (bat s a, 1, 1)
  else none
theorem sunExp_pkt {n a : Nat} : sunExp s pk (n + 1) ⟨a, 0, 0, 0⟩ = match sunPkt s pk a with
    | none => []
    | some (v, c, z) => List.replicate (min c (n + 1)) (v, a) ++ sunExp s pk (n + 1 - c) ⟨a + z, 0, 0, 0⟩ := by
  have h0 : ¬ (pk = true ∧ 0 < 0) := by omega
  conv => lhs; unfold sunExp sunGet
  unfold sunPkt
  simp only
  rw [if_neg h0]
  by_cases h2 : a < s.size
  · rw [if_pos (show a + 1 ≤ s.size from h2), if_pos h2]
    by_cases h3 : pk = true ∧ bat s a = 128
    · rw [if_pos h3, if_pos h3]
      by_cases h4 : a + 1 < s.size
      · rw [if_pos (show a + 1 + 1 ≤ s.size from h4), if_pos h4]
        by_cases h5 : bat s (a + 1) = 0
        · rw [if_pos h5, if_pos h5]
          simp
        · rw [if_neg h5, if_neg h5]
          by_cases h6 : a + 2 < s.size
          · rw [if_pos (show a + 2 + 1 ≤ s.size from h6), if_pos h6]
            simp only
            rw [h3.1, sunExp_again, sunExp_zero (n - bat s (a + 1)) (v' := 0) (p' := 0), show min (bat s (a + 1) + 1) (n + 1) = min (bat s (a + 1)) n + 1 by omega, List.replicate_succ, show n + 1 - (bat s (a + 1) + 1) = n - bat s (a + 1) by omega]
            rfl
          · rw [if_neg (show ¬ a + 2 + 1 ≤ s.size from h6), if_neg h6]
      · rw [if_neg (show ¬ a + 1 + 1 ≤ s.size from h4), if_neg h4]
    · rw [if_neg h3, if_neg h3]
      simp
  · rw [if_neg (show ¬ a + 1 ≤ s.size from h2), if_neg h2]
theorem sunExp_len : ∀ n {t : SunSt}, (sunExp s pk n t).length ≤ n := by
  intro n
  induction n with
  | zero => intro t; exact Nat.le_refl _
  | succ n ih =>
    intro t
    unfold sunExp
    split
    · simp
    · rw [List.length_cons]; have := ih (t := ‹SunSt›); omega
theorem sunGet_lt {t t' : SunSt} {v p : Nat} (hl : t.last < 256) (h : sunGet s pk t = some (v, p, t')) : v < 256 ∧ t'.last < 256 := by
  have b1 := bat_lt s t.a
  have b2 := bat_lt s (t.a + 2)
  unfold sunGet at h
  (repeat' split at h) <;> (cases h <;> exact ⟨by omega, by (try simp only); omega⟩)
theorem sunExp_lt : ∀ n {t : SunSt}, t.last < 256 → ∀ x ∈ sunExp s pk n t, x.1 < 256 := by
  intro n
  induction n with
  | zero => intro t _ x hx; simp [sunExp] at hx
  | succ n ih =>
    intro t ht x hx
    unfold sunExp at hx
    split at hx
    · simp at hx
    · rename_i v p t' hg
      obtain ⟨h1, h2⟩ := sunGet_lt ht hg
      rcases List.mem_cons.1 hx with rfl | hx
      · exact h1
      · exact ih h2 x hx
end
end Go.Proofs.YtccldalagbfmhaaGreat
