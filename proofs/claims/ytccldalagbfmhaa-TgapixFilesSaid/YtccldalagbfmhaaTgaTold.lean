/- Plain: what a decoder of TGA's tells; what is enough for small images. -/
import Derived.Test.YtccldalagbfmhaaTgaDec
namespace Go.Proofs.Ytccldalagbfmhaa
set_option linter.unusedVariables false

section
variable {s : ByteArray} {h : TgaHd} {M : List Qc} {z : Nat} {B w g : Int}
theorem tgaPuts_may {a : Nat} : ∀ n L q {k : List Qc → Dec}, (∀ L', (k L').may B w g) → (tgaPuts z a n L q k).may B w g := by
  intro n
  induction n with
  | zero => intro L q k hk; exact hk _
  | succ n ih => intro L q k hk; exact ⟨by decide, ih _ _ hk⟩
theorem tgaNext_may {times a : Nat} {L : List Qc} {k : Nat → List Qc → Dec} (hk : ∀ a' L', (k a' L').may B w g) : (tgaNext s h M z times a L k).may B w g := by
  refine ⟨by decide, ?_⟩
  split
  · cases tgaPixel s h M a with
    | inl g => exact trivial
    | inr q => exact tgaPuts_may _ _ _ fun _ => hk _ _
  · exact trivial
theorem tgaRaw_may : ∀ n a L {k : Nat → List Qc → Dec}, (∀ a' L', (k a' L').may B w g) → (tgaRaw s h M z n a L k).may B w g := by
  intro n
  induction n with
  | zero => intro a L k hk; exact hk _ _
  | succ n ih => intro a L k hk; exact tgaNext_may fun _ _ => ih _ _ hk
theorem tgaPk_may {N : Nat} : ∀ f a L {k : List Qc → Dec}, (∀ L', (k L').may B w g) → (tgaPk s h M z N f a L k).may B w g := by
  intro f
  induction f with
  | zero => intro a L k hk; exact hk _
  | succ f ih =>
    intro a L k hk
    unfold tgaPk
    split
    · exact hk _
    · refine ⟨by decide, ?_⟩
      split
      · split
        · exact trivial
        · split
          · exact tgaNext_may fun _ _ => ih _ _ hk
          · exact tgaRaw_may _ _ _ fun _ _ => ih _ _ hk
      · exact trivial
theorem tgaPixels_may {m a : Nat} : (tgaPixels s h M z m a).may B w g := by
  unfold tgaPixels
  split
  · exact tgaPk_may _ _ _ fun _ => trivial
  · exact tgaRaw_may _ _ _ fun _ _ => trivial
theorem tgaPal_may : ∀ n a M {k : Nat → List Qc → Dec}, (∀ a' M', (k a' M').may B w g) → (tgaPal s h z n a M k).may B w g := by
  intro n
  induction n with
  | zero => intro a M k hk; exact hk _ _
  | succ n ih =>
    intro a M k hk
    refine ⟨by decide, ?_⟩
    split
    · exact ih _ _ hk
    · exact trivial
theorem tgaMap_may {a : Nat} (hb : ((4 * h.count : Nat) : Int) + (z : Int) ≤ B) : (tgaMap s h z a).may B w g := by
  unfold tgaMap
  split
  · exact tgaPixels_may
  · split
    · refine ⟨by decide, ?_⟩
      split
      · exact tgaPixels_may
      · exact trivial
    · exact ⟨hb, tgaPal_may _ _ _ fun _ _ => tgaPixels_may⟩
end
/-- sides and entries that a head tells, or noughts -/
def tgaSides (s : ByteArray) : Nat × Nat × Nat := match tgaFault s with
  | some _ => (0, 0, 0)
  | none => ((tgaHd s).W, (tgaHd s).H, if (tgaHd s).mapped then (tgaHd s).count else 0)
theorem tgaDec_enough (s : ByteArray) (hw : (tgaSides s).1 ≤ 60) (hh : (tgaSides s).2.1 ≤ 60) (hn : (tgaSides s).2.2 ≤ 300) : (tgaDec s).cost ≤ 100000 ∧ (tgaDec s).may 262144 16384 16384 := by
  unfold tgaSides tgaFault at hw hh hn
  unfold tgaDec Dec.cost Dec.may
  by_cases h : s.size < 18
  · rw [if_pos h]; exact ⟨by unfold Dec.cost; decide, by decide, trivial⟩
  · rw [if_neg h] at hw hh hn ⊢
    have hk := @tgaHead_none s
    generalize tgaHead s = o at hk hw hh hn ⊢
    cases o with
    | some f => exact ⟨by unfold Dec.cost; decide, by decide, trivial⟩
    | none =>
      obtain ⟨ok, _, _⟩ := hk rfl
      simp only at hw hh hn ⊢
      generalize tgaHd s = g at ok hw hh hn ⊢
      have hp : g.W * g.H ≤ 3600 := Nat.mul_le_mul hw hh
      have c2 := ok.c2
      refine ⟨?_, by decide, ⟨by have := ok.w1; omega, by omega⟩, ⟨by have := ok.h1; omega, by omega⟩, by omega, by decide, ?_⟩
      · unfold tgaBody Dec.cost Dec.cost Dec.cost
        rw [tga_one]
        split
        · have := tgaMap_cost (s := s) (h := g) (z := 4 * (g.W * g.H)) (a := 18 + g.name); omega
        · unfold Dec.cost Dec.cost; omega
      · split
        · by_cases hm : g.mapped
          · rw [if_pos hm] at hn
            exact tgaMap_may (by omega)
          · unfold tgaMap
            split
            · exact tgaPixels_may
            · refine ⟨by decide, ?_⟩
              split
              · exact tgaPixels_may
              · exact trivial
        · exact trivial
/-- the same by itself: a fault, or the place and the colours -/
def tgaNextR (s : ByteArray) (h : TgaHd) (M : List Qc) (times a : Nat) (L : List Qc) : (Nat × Nat) ⊕ (Nat × List Qc) :=
  if a + h.size ≤ s.size then (match tgaPixel s h M a with
    | .inl g => .inl g
    | .inr q => .inr (a + h.size, L ++ List.replicate times q))
  else .inl (1, s.size)
def tgaRawR (s : ByteArray) (h : TgaHd) (M : List Qc) : Nat → Nat → List Qc → (Nat × Nat) ⊕ (Nat × List Qc)
  | 0, a, L => .inr (a, L)
  | n + 1, a, L => match tgaNextR s h M 1 a L with
    | .inl g => .inl g
    | .inr (a', L') => tgaRawR s h M n a' L'
def tgaPkR (s : ByteArray) (h : TgaHd) (M : List Qc) (N : Nat) : Nat → Nat → List Qc → (Nat × Nat) ⊕ (List Qc)
  | 0, a, L => .inr L
  | f + 1, a, L => if N ≤ L.length then .inr L else if a + 1 ≤ s.size then
      (if N - L.length < bat s a % 128 + 1 then .inl (2, a)
       else match (if 128 ≤ bat s a then tgaNextR s h M (bat s a % 128 + 1) (a + 1) L else tgaRawR s h M (bat s a % 128 + 1) (a + 1) L) with
        | .inl g => .inl g
        | .inr (a', L') => tgaPkR s h M N f a' L')
    else .inl (1, s.size)
section
variable {s : ByteArray} {h : TgaHd} {M : List Qc} {z : Nat}
theorem tgaPuts_told {a : Nat} : ∀ n L q {k : List Qc → Dec}, (tgaPuts z a n L q k).told = (k (L ++ List.replicate n q)).told := by
  intro n
  induction n with
  | zero => intro L q k; rw [List.replicate_zero, List.append_nil]; rfl
  | succ n ih =>
    intro L q k
    show (tgaPuts z a n (L ++ [q]) q k).told = _
    rw [ih, List.append_assoc]
    rfl
theorem tgaNext_told {times a : Nat} {L : List Qc} {k : Nat → List Qc → Dec} : (tgaNext s h M z times a L k).told = match tgaNextR s h M times a L with | .inl g => .bad g.1 g.2 | .inr (a', L') => (k a' L').told := by
  unfold tgaNext tgaNextR
  rw [Dec.told]
  by_cases h1 : a + h.size ≤ s.size
  · rw [if_pos h1, if_pos h1]
    cases tgaPixel s h M a with
    | inl g => rfl
    | inr q => exact tgaPuts_told _ _ _
  · rw [if_neg h1, if_neg h1]; rfl
theorem tgaRaw_told : ∀ n a L {k : Nat → List Qc → Dec}, (tgaRaw s h M z n a L k).told = match tgaRawR s h M n a L with | .inl g => .bad g.1 g.2 | .inr (a', L') => (k a' L').told := by
  intro n
  induction n with
  | zero => intro a L k; rfl
  | succ n ih =>
    intro a L k
    unfold tgaRaw tgaRawR
    rw [tgaNext_told]
    cases tgaNextR s h M 1 a L with
    | inl g => rfl
    | inr p => obtain ⟨a', L'⟩ := p; exact ih _ _
theorem tgaPk_told {N : Nat} : ∀ f a L {k : List Qc → Dec}, (tgaPk s h M z N f a L k).told = match tgaPkR s h M N f a L with | .inl g => .bad g.1 g.2 | .inr L' => (k L').told := by
  intro f
  induction f with
  | zero => intro a L k; rfl
  | succ f ih =>
    intro a L k
    unfold tgaPk tgaPkR
    by_cases h0 : N ≤ L.length
    · rw [if_pos h0, if_pos h0]
    · rw [if_neg h0, if_neg h0, Dec.told]
      by_cases h1 : a + 1 ≤ s.size
      · rw [if_pos h1, if_pos h1]
        by_cases h2 : N - L.length < bat s a % 128 + 1
        · rw [if_pos h2, if_pos h2]; rfl
        · rw [if_neg h2, if_neg h2]
          by_cases h3 : 128 ≤ bat s a
          · rw [if_pos h3, if_pos h3, tgaNext_told]
            cases tgaNextR s h M (bat s a % 128 + 1) (a + 1) L with
            | inl g => rfl
            | inr p => obtain ⟨a', L'⟩ := p; exact ih _ _
          · rw [if_neg h3, if_neg h3, tgaRaw_told]
            cases tgaRawR s h M (bat s a % 128 + 1) (a + 1) L with
            | inl g => rfl
            | inr p => obtain ⟨a', L'⟩ := p; exact ih _ _
      · rw [if_neg h1, if_neg h1]; rfl
/-- all pixels, from a place on -/
def tgaPixR (s : ByteArray) (h : TgaHd) (M : List Qc) (a : Nat) : DRes :=
  if TgaPacked h.typ then (match tgaPkR s h M (h.W * h.H) (h.W * h.H) a [] with
    | .inl g => .bad g.1 g.2
    | .inr L => .img h.W h.H (flat (tgaPerm h L)))
  else (match tgaRawR s h M (h.W * h.H) a [] with
    | .inl g => .bad g.1 g.2
    | .inr (_, L) => .img h.W h.H (flat (tgaPerm h L)))
theorem tgaPixels_told {m a : Nat} : (tgaPixels s h M z m a).told = tgaPixR s h M a := by
  unfold tgaPixels tgaPixR
  by_cases hp : TgaPacked h.typ
  · rw [if_pos hp, if_pos hp, tgaPk_told]
    cases tgaPkR s h M (h.W * h.H) (h.W * h.H) a [] with
    | inl g => rfl
    | inr L => rfl
  · rw [if_neg hp, if_neg hp, tgaRaw_told]
    cases tgaRawR s h M (h.W * h.H) a [] with
    | inl g => rfl
    | inr p => rfl
/-- so many entries, from a place on -/
def tgaEnts (s : ByteArray) (h : TgaHd) : Nat → Nat → List Qc
  | 0, _ => []
  | n + 1, a => ecol (tgaKind h.entry : Int) (s.data.toList.drop a) :: tgaEnts s h n (a + tgaEntry h.entry)
theorem tgaPal_told : ∀ n a M {k : Nat → List Qc → Dec}, a ≤ s.size → (tgaPal s h z n a M k).told = if a + tgaEntry h.entry * n ≤ s.size then (k (a + tgaEntry h.entry * n) (M ++ tgaEnts s h n a)).told else .bad 1 s.size := by
  intro n
  induction n with
  | zero =>
    intro a M k ha
    rw [if_pos (by omega)]
    show (k a M).told = (k (a + tgaEntry h.entry * 0) (M ++ [])).told
    rw [Nat.mul_zero, Nat.add_zero, List.append_nil]
  | succ n ih =>
    intro a M k ha
    unfold tgaPal tgaEnts
    rw [Dec.told]
    have e : a + tgaEntry h.entry * (n + 1) = a + tgaEntry h.entry + tgaEntry h.entry * n := by rw [Nat.mul_add]; omega
    rw [e]
    by_cases h1 : a + tgaEntry h.entry ≤ s.size
    · rw [if_pos h1, ih _ _ h1, List.append_assoc]
      rfl
    · rw [if_neg h1, if_neg (by omega)]; rfl
/-- what the document tells behind a head -/
def tgaMapR (s : ByteArray) (h : TgaHd) : (Nat × Nat) ⊕ (Nat × List Qc) :=
  if 18 + h.name ≤ s.size then (if h.map = false then .inr (18 + h.name, [])
    else if 18 + h.name + tgaEntry h.entry * h.count ≤ s.size then .inr (18 + h.name + tgaEntry h.entry * h.count, if h.mapped then tgaEnts s h h.count (18 + h.name) else []) else .inl (1, s.size))
  else .inl (1, s.size)
def tgaRef (s : ByteArray) (h : TgaHd) : DRes := match tgaMapR s h with
  | .inl g => .bad g.1 g.2
  | .inr (a, M) => tgaPixR s h M a
theorem tgaBody_told : (tgaBody s h).told = tgaRef s h := by
  unfold tgaBody tgaRef tgaMapR
  rw [Dec.told, Dec.told, Dec.told]
  by_cases h1 : 18 + h.name ≤ s.size
  · rw [if_pos h1, if_pos h1]
    unfold tgaMap
    by_cases h2 : h.map = false
    · rw [if_pos h2, if_pos h2]; exact tgaPixels_told
    · rw [if_neg h2, if_neg h2]
      by_cases h3 : h.mapped
      · rw [if_neg (by simpa using h3), if_pos h3, Dec.told, tgaPal_told _ _ _ h1]
        by_cases h4 : 18 + h.name + tgaEntry h.entry * h.count ≤ s.size
        · rw [if_pos h4, if_pos h4, List.nil_append]; exact tgaPixels_told
        · rw [if_neg h4, if_neg h4]
      · rw [if_pos h3, if_neg h3, Dec.told]
        by_cases h4 : 18 + h.name + tgaEntry h.entry * h.count ≤ s.size
        · rw [if_pos h4, if_pos h4]; exact tgaPixels_told
        · rw [if_neg h4, if_neg h4]; rfl
  · rw [if_neg h1, if_neg h1]; rfl
end
theorem tgaDec_told (s : ByteArray) : (tgaDec s).told = match tgaFault s with | some f => .bad f.1 f.2 | none => tgaRef s (tgaHd s) := by
  unfold tgaDec tgaFault
  rw [Dec.told]
  by_cases h : s.size < 18
  · rw [if_pos h, if_pos h]; rfl
  · rw [if_neg h, if_neg h]
    cases tgaHead s with
    | some f => rfl
    | none => exact tgaBody_told
end Go.Proofs.Ytccldalagbfmhaa
