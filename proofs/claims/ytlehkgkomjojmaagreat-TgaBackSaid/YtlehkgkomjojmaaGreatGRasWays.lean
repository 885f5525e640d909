/- Plain: a file of TGA's, as a decoder takes it. Plain: what a decoder of TGA's tells; what is enough for small images. Readings told with all their ways at once: what a budget refuses, what is too short, what is read; a pixel's change; a raster in the making. A palette's Read. A palette is read by any budget: as many entries as are wanted, or it is told what lacks. farbfeld: Decode. farbfeld: Decode, by any budget. A raster is made, told with all its ways at once. -/
import Derived.Test.YtlehkgkomjojmaaGreatGTgaA
import Derived.Test.YtlehkgkomjojmaaGreatGPal1
import Derived.Test.YtlehkgkomjojmaaGreatGScaler
import Derived.Test.YtlehkgkomjojmaaGreatGTgaB
namespace Go.Proofs.YtlehkgkomjojmaaGreat
set_option linter.unusedVariables false

/-- a colour of a pixel's bytes -/
def tgaQ (s : ByteArray) (h : TgaHd) (a : Nat) : Qc :=
  if h.depth = 16 ∧ h.alpha = 1 ∧ bat s (a + 1) < 128 then { ecol (tgaKind h.depth : Int) (s.data.toList.drop a) with a := 0 }
  else if h.depth = 32 ∧ h.alpha = 0 then { ecol (tgaKind h.depth : Int) (s.data.toList.drop a) with a := 255 }
  else ecol (tgaKind h.depth : Int) (s.data.toList.drop a)
/-- a pixel at a place, or what is wrong -/
def tgaPixel (s : ByteArray) (h : TgaHd) (M : List Qc) (a : Nat) : (Nat × Nat) ⊕ Qc :=
  if h.depth ≠ 8 then .inr (tgaQ s h a)
  else if ¬ h.mapped then .inr ⟨b8 s a, b8 s a, b8 s a, 255⟩
  else if h.first ≤ bat s a ∧ bat s a - h.first < M.length then .inr (M.getD (bat s a - h.first) ⟨0, 0, 0, 0⟩) else .inl (2, a)
theorem tgaPixel_bad {s : ByteArray} {h : TgaHd} {M : List Qc} {a : Nat} {g : Nat × Nat} (e : tgaPixel s h M a = .inl g) : g = (2, a) := by
  unfold tgaPixel at e
  split at e
  · cases e
  · split at e
    · cases e
    · split at e
      · cases e
      · cases e; rfl
def tgaPuts (z a : Nat) : Nat → List Qc → Qc → (List Qc → Dec) → Dec
  | 0, L, q, k => k L
  | n + 1, L, q, k => .work 1 z a (tgaPuts z a n (L ++ [q]) q k)
def tgaNext (s : ByteArray) (h : TgaHd) (M : List Qc) (z times a : Nat) (L : List Qc) (k : Nat → List Qc → Dec) : Dec :=
  .work 1 z a (if a + h.size ≤ s.size then (match tgaPixel s h M a with
    | .inl g => .give z (.fin (.bad g.1 g.2))
    | .inr q => tgaPuts z (a + h.size) times L q (k (a + h.size)))
  else .give z (.fin (.bad 1 s.size)))
def tgaRaw (s : ByteArray) (h : TgaHd) (M : List Qc) (z : Nat) : Nat → Nat → List Qc → (Nat → List Qc → Dec) → Dec
  | 0, a, L, k => k a L
  | n + 1, a, L, k => tgaNext s h M z 1 a L fun a L => tgaRaw s h M z n a L k
def tgaPk (s : ByteArray) (h : TgaHd) (M : List Qc) (z N : Nat) : Nat → Nat → List Qc → (List Qc → Dec) → Dec
  | 0, a, L, k => k L
  | f + 1, a, L, k => if N ≤ L.length then k L else .work 1 z a (if a + 1 ≤ s.size then
      (if N - L.length < bat s a % 128 + 1 then .give z (.fin (.bad 2 a))
       else if 128 ≤ bat s a then tgaNext s h M z (bat s a % 128 + 1) (a + 1) L fun a L => tgaPk s h M z N f a L k
       else tgaRaw s h M z (bat s a % 128 + 1) (a + 1) L fun a L => tgaPk s h M z N f a L k)
    else .give z (.fin (.bad 1 s.size)))
/-- the pixels at their places -/
def tgaPerm (h : TgaHd) (L : List Qc) : List Qc := (List.range L.length).foldl (fun acc k => acc.set (h.place k) (L.getD k ⟨0, 0, 0, 0⟩)) (List.replicate (h.W * h.H) ⟨0, 0, 0, 0⟩)
theorem tgaPerm_len (h : TgaHd) (L : List Qc) : (tgaPerm h L).length = h.W * h.H := by
  unfold tgaPerm
  have key : ∀ (ks : List Nat) (acc : List Qc), (ks.foldl (fun acc k => acc.set (h.place k) (L.getD k ⟨0, 0, 0, 0⟩)) acc).length = acc.length := by
    intro ks
    induction ks with
    | nil => intro acc; rfl
    | cons k ks ih => intro acc; rw [List.foldl_cons, ih, List.length_set]
  rw [key, List.length_replicate]
def tgaEnd (h : TgaHd) (m : Nat) (L : List Qc) : Dec := .give m (.fin (.img h.W h.H (flat (tgaPerm h L))))
def tgaPixels (s : ByteArray) (h : TgaHd) (M : List Qc) (z m a : Nat) : Dec :=
  if TgaPacked h.typ then tgaPk s h M z (h.W * h.H) (h.W * h.H) a [] (tgaEnd h m) else tgaRaw s h M z (h.W * h.H) a [] fun _ L => tgaEnd h m L
def tgaPal (s : ByteArray) (h : TgaHd) (z : Nat) : Nat → Nat → List Qc → (Nat → List Qc → Dec) → Dec
  | 0, a, M, k => k a M
  | n + 1, a, M, k => .work 1 z a (if a + tgaEntry h.entry ≤ s.size then tgaPal s h z n (a + tgaEntry h.entry) (M ++ [ecol (tgaKind h.entry : Int) (s.data.toList.drop a)]) k else .give z (.fin (.bad 1 s.size)))
def tgaMap (s : ByteArray) (h : TgaHd) (z a : Nat) : Dec :=
  if h.map = false then tgaPixels s h [] z 0 a
  else if ¬ h.mapped then .work 1 z a (if a + tgaEntry h.entry * h.count ≤ s.size then tgaPixels s h [] z 0 (a + tgaEntry h.entry * h.count) else .give z (.fin (.bad 1 s.size)))
  else .hold (4 * h.count) z a (tgaPal s h (z + 4 * h.count) h.count a [] fun a M => tgaPixels s h M (z + 4 * h.count) (4 * h.count) a)
def tgaBody (s : ByteArray) (h : TgaHd) : Dec :=
  .sides h.W h.H 18 (.take (4 * (h.W * h.H)) 18 (.work 1 (4 * (h.W * h.H)) 18 (if 18 + h.name ≤ s.size then tgaMap s h (4 * (h.W * h.H)) (18 + h.name) else .give (4 * (h.W * h.H)) (.fin (.bad 1 s.size)))))
def tgaDec (s : ByteArray) : Dec :=
  .work 1 0 0 (if s.size < 18 then .fin (.bad 1 s.size) else match tgaHead s with
    | some f => .fin (.bad f.1 f.2)
    | none => tgaBody s (tgaHd s))
section
variable {s : ByteArray} {h : TgaHd} {M : List Qc} {z e : Nat}
theorem tgaPuts_bal {a : Nat} (ha : a ≤ e) : ∀ n L q {k : List Qc → Dec}, (∀ L', L'.length = L.length + n → (k L').bal e z) → (tgaPuts z a n L q k).bal e z := by
  intro n
  induction n with
  | zero => intro L q k hk; exact hk _ rfl
  | succ n ih =>
    intro L q k hk
    refine ⟨rfl, ha, ih _ _ fun L' hL => hk _ ?_⟩
    rw [hL, List.length_append, List.length_singleton]
    omega
theorem tgaNext_bal {times a : Nat} {L : List Qc} {k : Nat → List Qc → Dec} (he : s.size = e) (ha : a ≤ e) (hk : ∀ a' L', a' ≤ e → L'.length = L.length + times → (k a' L').bal e z) : (tgaNext s h M z times a L k).bal e z := by
  refine ⟨rfl, ha, ?_⟩
  split
  · cases hp : tgaPixel s h M a with
    | inl g => rw [tgaPixel_bad hp]; exact give_bal (by simp) ha
    | inr q => exact tgaPuts_bal (by omega) _ _ _ fun L' hL => hk _ _ (by omega) hL
  · exact give_bal (by decide) (by omega)
theorem tgaRaw_bal (he : s.size = e) : ∀ n a L {k : Nat → List Qc → Dec}, a ≤ e → (∀ a' L', a' ≤ e → L'.length = L.length + n → (k a' L').bal e z) → (tgaRaw s h M z n a L k).bal e z := by
  intro n
  induction n with
  | zero => intro a L k ha hk; exact hk _ _ ha rfl
  | succ n ih =>
    intro a L k ha hk
    refine tgaNext_bal he ha fun a' L' ha' hL' => ih _ _ ha' fun a2 L2 h2 hL2 => hk _ _ h2 ?_
    omega
theorem tgaPk_bal {N : Nat} (he : s.size = e) : ∀ f a L {k : List Qc → Dec}, a ≤ e → L.length ≤ N → N ≤ L.length + f → (∀ L', L'.length = N → (k L').bal e z) → (tgaPk s h M z N f a L k).bal e z := by
  intro f
  induction f with
  | zero => intro a L k ha hL hN hk; exact hk _ (by omega)
  | succ f ih =>
    intro a L k ha hL hN hk
    unfold tgaPk
    split
    · exact hk _ (by omega)
    · refine ⟨rfl, ha, ?_⟩
      split
      · split
        · exact give_bal (by decide) (by omega)
        · split
          · exact tgaNext_bal he (by omega) fun a' L' h1 h2 => ih _ _ h1 (by omega) (by omega) hk
          · exact tgaRaw_bal he _ _ _ (by omega) fun a' L' h1 h2 => ih _ _ h1 (by omega) (by omega) hk
      · exact give_bal (by decide) (by omega)
theorem tgaEnd_bal {m : Nat} {L : List Qc} (hz : z = 4 * (h.W * h.H) + m) : (tgaEnd h m L).bal e z := by
  refine ⟨by omega, by omega, ?_⟩
  rw [flat_len, tgaPerm_len]
theorem tgaPixels_bal {m a : Nat} (he : s.size = e) (ha : a ≤ e) (hz : z = 4 * (h.W * h.H) + m) : (tgaPixels s h M z m a).bal e z := by
  unfold tgaPixels
  split
  · exact tgaPk_bal he _ _ _ ha (Nat.zero_le _) (by simp) fun L' _ => tgaEnd_bal hz
  · exact tgaRaw_bal he _ _ _ ha fun a' L' _ _ => tgaEnd_bal hz
theorem tgaPal_bal (he : s.size = e) : ∀ n a M {k : Nat → List Qc → Dec}, a ≤ e → (∀ a' M', a' ≤ e → (k a' M').bal e z) → (tgaPal s h z n a M k).bal e z := by
  intro n
  induction n with
  | zero => intro a M k ha hk; exact hk _ _ ha
  | succ n ih =>
    intro a M k ha hk
    refine ⟨rfl, ha, ?_⟩
    split
    · exact ih _ _ (by omega) hk
    · exact give_bal (by decide) (by omega)
theorem tgaMap_bal {a : Nat} (he : s.size = e) (ha : a ≤ e) (hz : z = 4 * (h.W * h.H)) : (tgaMap s h z a).bal e z := by
  unfold tgaMap
  split
  · exact tgaPixels_bal he ha (by omega)
  · split
    · refine ⟨rfl, ha, ?_⟩
      split
      · exact tgaPixels_bal he (by omega) (by omega)
      · exact give_bal (by decide) (by omega)
    · refine ⟨rfl, ha, ?_⟩
      exact tgaPal_bal he _ _ _ ha fun a' M' h1 => tgaPixels_bal he h1 (by omega)
end
theorem tgaDec_bal (s : ByteArray) : (tgaDec s).bal s.size 0 := by
  refine ⟨rfl, Nat.zero_le _, ?_⟩
  by_cases h : s.size < 18
  · rw [if_pos h]; exact ⟨rfl, by decide, Nat.le_refl _⟩
  · rw [if_neg h]
    have hk := @tgaHead_some s
    generalize tgaHead s = o at hk ⊢
    cases o with
    | some f => obtain ⟨h1, h2, h3⟩ := hk rfl; exact ⟨rfl, h2, by omega⟩
    | none =>
      simp only
      refine ⟨rfl, by omega, rfl, by omega, ?_⟩
      rw [Nat.zero_add]
      refine ⟨rfl, by omega, ?_⟩
      split
      · exact tgaMap_bal rfl (by omega) rfl
      · exact give_bal (by decide) (Nat.le_refl _)
theorem tga_one : (1 : Int).toNat = 1 := rfl
section
variable {s : ByteArray} {h : TgaHd} {M : List Qc} {z : Nat}
theorem tgaNext_cost {times a c : Nat} {L : List Qc} {k : Nat → List Qc → Dec} (hk : ∀ L', L'.length = L.length + times → (k (a + h.size) L').cost ≤ c) : (tgaNext s h M z times a L k).cost ≤ 1 + times + c := by
  unfold tgaNext Dec.cost
  rw [tga_one]
  split
  · cases tgaPixel s h M a with
    | inl g => simp only; unfold Dec.cost Dec.cost; omega
    | inr q =>
      simp only
      have key : ∀ n (L0 : List Qc), L0.length + n = L.length + times → (tgaPuts z (a + h.size) n L0 q (k (a + h.size))).cost ≤ n + c := by
        intro n
        induction n with
        | zero => intro L0 h0; have := hk L0 (by omega); unfold tgaPuts; omega
        | succ n ih =>
          intro L0 h0
          have := ih (L0 ++ [q]) (by rw [List.length_append, List.length_singleton]; omega)
          unfold tgaPuts Dec.cost
          rw [tga_one]
          omega
      have := key times L rfl
      omega
  · unfold Dec.cost Dec.cost; omega
theorem tgaRaw_cost {c : Nat} : ∀ n a L {k : Nat → List Qc → Dec}, (∀ a' L', L'.length = L.length + n → (k a' L').cost ≤ c) → (tgaRaw s h M z n a L k).cost ≤ 2 * n + c := by
  intro n
  induction n with
  | zero => intro a L k hk; have := hk a L rfl; unfold tgaRaw; omega
  | succ n ih =>
    intro a L k hk
    unfold tgaRaw
    have := tgaNext_cost (s := s) (h := h) (M := M) (z := z) (times := 1) (a := a) (c := 2 * n + c) (L := L) (k := fun a L => tgaRaw s h M z n a L k) fun L' hL => ih _ _ fun a2 L2 h2 => hk _ _ (by omega)
    omega
theorem tgaPk_cost {N c : Nat} : ∀ f a L {k : List Qc → Dec}, L.length ≤ N → (∀ L', (k L').cost ≤ c) → (tgaPk s h M z N f a L k).cost ≤ 3 * (N - L.length) + c := by
  intro f
  induction f with
  | zero => intro a L k hL hk; have := hk L; unfold tgaPk; omega
  | succ f ih =>
    intro a L k hL hk
    unfold tgaPk
    split
    · have := hk L; omega
    · unfold Dec.cost
      rw [tga_one]
      split
      · split
        · unfold Dec.cost Dec.cost; omega
        · split
          · have := tgaNext_cost (s := s) (h := h) (M := M) (z := z) (times := bat s a % 128 + 1) (a := a + 1) (c := 3 * (N - (L.length + (bat s a % 128 + 1))) + c) (L := L) (k := fun a L => tgaPk s h M z N f a L k) fun L' hL' => by
              have := ih (a + 1 + h.size) L' (k := k) (by omega) hk
              rw [hL'] at this
              exact this
            omega
          · have := tgaRaw_cost (s := s) (h := h) (M := M) (z := z) (c := 3 * (N - (L.length + (bat s a % 128 + 1))) + c) (bat s a % 128 + 1) (a + 1) L (k := fun a L => tgaPk s h M z N f a L k) fun a' L' hL' => by
              have := ih a' L' (k := k) (by omega) hk
              rw [hL'] at this
              exact this
            omega
      · unfold Dec.cost Dec.cost; omega
theorem tgaPixels_cost {m a : Nat} : (tgaPixels s h M z m a).cost ≤ 3 * (h.W * h.H) := by
  unfold tgaPixels
  split
  · have := tgaPk_cost (s := s) (h := h) (M := M) (z := z) (N := h.W * h.H) (c := 0) (h.W * h.H) a [] (k := tgaEnd h m) (Nat.zero_le _) fun L' => Nat.le_refl _
    simp only [List.length_nil] at this
    omega
  · have := tgaRaw_cost (s := s) (h := h) (M := M) (z := z) (c := 0) (h.W * h.H) a [] (k := fun _ L => tgaEnd h m L) fun a' L' _ => Nat.le_refl _
    omega
theorem tgaPal_cost {c : Nat} : ∀ n a M {k : Nat → List Qc → Dec}, (∀ a' M', (k a' M').cost ≤ c) → (tgaPal s h z n a M k).cost ≤ n + c := by
  intro n
  induction n with
  | zero => intro a M k hk; have := hk a M; unfold tgaPal; omega
  | succ n ih =>
    intro a M k hk
    unfold tgaPal Dec.cost
    rw [tga_one]
    split
    · have := ih (a + tgaEntry h.entry) (M ++ [ecol (tgaKind h.entry : Int) (s.data.toList.drop a)]) hk; omega
    · unfold Dec.cost Dec.cost; omega
theorem tgaMap_cost {a : Nat} : (tgaMap s h z a).cost ≤ 1 + h.count + 3 * (h.W * h.H) := by
  unfold tgaMap
  split
  · have := tgaPixels_cost (s := s) (h := h) (M := []) (z := z) (m := 0) (a := a); omega
  · split
    · unfold Dec.cost
      rw [tga_one]
      split
      · have := tgaPixels_cost (s := s) (h := h) (M := []) (z := z) (m := 0) (a := a + tgaEntry h.entry * h.count); omega
      · unfold Dec.cost Dec.cost; omega
    · unfold Dec.cost
      have := tgaPal_cost (s := s) (h := h) (z := z + 4 * h.count) (c := 3 * (h.W * h.H)) h.count a [] (k := fun a M => tgaPixels s h M (z + 4 * h.count) (4 * h.count) a) fun a' M' => tgaPixels_cost
      omega
end
end Go.Proofs.YtlehkgkomjojmaaGreat
namespace Go.Proofs.YtlehkgkomjojmaaGreat
set_option linter.unusedVariables false

section
variable {s : ByteArray} {h : TgaHd} {M : List Qc} {z : Nat} {B w g : Int}
theorem tgaPuts_may {a : Nat} : ∀ n L q {k : List Qc → Dec}, (∀ L', (k L').may B w g) → (tgaPuts z a n L q k).may B w g := by
  intro n
  induction n with
  | zero => intro L q k hk; exact hk _
  | succ n ih => intro L q k hk; exact ⟨by decide, ih _ _ hk⟩
theorem tgaNext_may {times a : Nat} {L : List Qc} {k : Nat → List Qc → Dec} (hk : ∀ a' L', (k a' L').may B w g) : (tgaNext s h M z times a L k).may B w g := by
  refine ⟨by decide, ?_⟩
  split
  · cases tgaPixel s h M a with
    | inl g => exact trivial
    | inr q => exact tgaPuts_may _ _ _ fun _ => hk _ _
  · exact trivial
theorem tgaRaw_may : ∀ n a L {k : Nat → List Qc → Dec}, (∀ a' L', (k a' L').may B w g) → (tgaRaw s h M z n a L k).may B w g := by
  intro n
  induction n with
  | zero => intro a L k hk; exact hk _ _
  | succ n ih => intro a L k hk; exact tgaNext_may fun _ _ => ih _ _ hk
theorem tgaPk_may {N : Nat} : ∀ f a L {k : List Qc → Dec}, (∀ L', (k L').may B w g) → (tgaPk s h M z N f a L k).may B w g := by
  intro f
  induction f with
  | zero => intro a L k hk; exact hk _
  | succ f ih =>
    intro a L k hk
    unfold tgaPk
    split
    · exact hk _
    · refine ⟨by decide, ?_⟩
      split
      · split
        · exact trivial
        · split
          · exact tgaNext_may fun _ _ => ih _ _ hk
          · exact tgaRaw_may _ _ _ fun _ _ => ih _ _ hk
      · exact trivial
theorem tgaPixels_may {m a : Nat} : (tgaPixels s h M z m a).may B w g := by
  unfold tgaPixels
  split
  · exact tgaPk_may _ _ _ fun _ => trivial
  · exact tgaRaw_may _ _ _ fun _ _ => trivial
theorem tgaPal_may : ∀ n a M {k : Nat → List Qc → Dec}, (∀ a' M', (k a' M').may B w g) → (tgaPal s h z n a M k).may B w g := by
  intro n
  induction n with
  | zero => intro a M k hk; exact hk _ _
  | succ n ih =>
    intro a M k hk
    refine ⟨by decide, ?_⟩
    split
    · exact ih _ _ hk
    · exact trivial
theorem tgaMap_may {a : Nat} (hb : ((4 * h.count : Nat) : Int) + (z : Int) ≤ B) : (tgaMap s h z a).may B w g := by
  unfold tgaMap
  split
  · exact tgaPixels_may
  · split
    · refine ⟨by decide, ?_⟩
      split
      · exact tgaPixels_may
      · exact trivial
    · exact ⟨hb, tgaPal_may _ _ _ fun _ _ => tgaPixels_may⟩
end
/-- sides and entries that a head tells, or noughts -/
def tgaSides (s : ByteArray) : Nat × Nat × Nat := match tgaFault s with
  | some _ => (0, 0, 0)
  | none => ((tgaHd s).W, (tgaHd s).H, if (tgaHd s).mapped then (tgaHd s).count else 0)
theorem tgaDec_enough (s : ByteArray) (hw : (tgaSides s).1 ≤ 60) (hh : (tgaSides s).2.1 ≤ 60) (hn : (tgaSides s).2.2 ≤ 300) : (tgaDec s).cost ≤ 100000 ∧ (tgaDec s).may 262144 16384 16384 := by
  unfold tgaSides tgaFault at hw hh hn
  unfold tgaDec Dec.cost Dec.may
  by_cases h : s.size < 18
  · rw [if_pos h]; exact ⟨by unfold Dec.cost; decide, by decide, trivial⟩
  · rw [if_neg h] at hw hh hn ⊢
    have hk := @tgaHead_none s
    generalize tgaHead s = o at hk hw hh hn ⊢
    cases o with
    | some f => exact ⟨by unfold Dec.cost; decide, by decide, trivial⟩
    | none =>
      obtain ⟨ok, _, _⟩ := hk rfl
      simp only at hw hh hn ⊢
      generalize tgaHd s = g at ok hw hh hn ⊢
      have hp : g.W * g.H ≤ 3600 := Nat.mul_le_mul hw hh
      have c2 := ok.c2
      refine ⟨?_, by decide, ⟨by have := ok.w1; omega, by omega⟩, ⟨by have := ok.h1; omega, by omega⟩, by omega, by decide, ?_⟩
      · unfold tgaBody Dec.cost Dec.cost Dec.cost
        rw [tga_one]
        split
        · have := tgaMap_cost (s := s) (h := g) (z := 4 * (g.W * g.H)) (a := 18 + g.name); omega
        · unfold Dec.cost Dec.cost; omega
      · split
        · by_cases hm : g.mapped
          · rw [if_pos hm] at hn
            exact tgaMap_may (by omega)
          · unfold tgaMap
            split
            · exact tgaPixels_may
            · refine ⟨by decide, ?_⟩
              split
              · exact tgaPixels_may
              · exact trivial
        · exact trivial
/-- the same by itself: a fault, or the place and the colours -/
def tgaNextR (s : ByteArray) (h : TgaHd) (M : List Qc) (times a : Nat) (L : List Qc) : (Nat × Nat) ⊕ (Nat × List Qc) :=
  if a + h.size ≤ s.size then (match tgaPixel s h M a with
    | .inl g => .inl g
    | .inr q => .inr (a + h.size, L ++ List.replicate times q))
  else .inl (1, s.size)
def tgaRawR (s : ByteArray) (h : TgaHd) (M : List Qc) : Nat → Nat → List Qc → (Nat × Nat) ⊕ (Nat × List Qc)
  | 0, a, L => .inr (a, L)
  | n + 1, a, L => match tgaNextR s h M 1 a L with
    | .inl g => .inl g
    | .inr (a', L') => tgaRawR s h M n a' L'
def tgaPkR (s : ByteArray) (h : TgaHd) (M : List Qc) (N : Nat) : Nat → Nat → List Qc → (Nat × Nat) ⊕ (List Qc)
  | 0, a, L => .inr L
  | f + 1, a, L => if N ≤ L.length then .inr L else if a + 1 ≤ s.size then
      (if N - L.length < bat s a % 128 + 1 then .inl (2, a)
       else match (if 128 ≤ bat s a then tgaNextR s h M (bat s a % 128 + 1) (a + 1) L else tgaRawR s h M (bat s a % 128 + 1) (a + 1) L) with
        | .inl g => .inl g
        | .inr (a', L') => tgaPkR s h M N f a' L')
    else .inl (1, s.size)
section
variable {s : ByteArray} {h : TgaHd} {M : List Qc} {z : Nat}
theorem tgaPuts_told {a : Nat} : ∀ n L q {k : List Qc → Dec}, (tgaPuts z a n L q k).told = (k (L ++ List.replicate n q)).told := by
  intro n
  induction n with
  | zero => intro L q k; rw [List.replicate_zero, List.append_nil]; rfl
  | succ n ih =>
    intro L q k
    show (tgaPuts z a n (L ++ [q]) q k).told = _
    rw [ih, List.append_assoc]
    rfl
theorem tgaNext_told {times a : Nat} {L : List Qc} {k : Nat → List Qc → Dec} : (tgaNext s h M z times a L k).told = match tgaNextR s h M times a L with | .inl g => .bad g.1 g.2 | .inr (a', L') => (k a' L').told := by
  unfold tgaNext tgaNextR
  rw [Dec.told]
  by_cases h1 : a + h.size ≤ s.size
  · rw [if_pos h1, if_pos h1]
    cases tgaPixel s h M a with
    | inl g => rfl
    | inr q => exact tgaPuts_told _ _ _
  · rw [if_neg h1, if_neg h1]; rfl
theorem tgaRaw_told : ∀ n a L {k : Nat → List Qc → Dec}, (tgaRaw s h M z n a L k).told = match tgaRawR s h M n a L with | .inl g => .bad g.1 g.2 | .inr (a', L') => (k a' L').told := by
  intro n
  induction n with
  | zero => intro a L k; rfl
  | succ n ih =>
    intro a L k
    unfold tgaRaw tgaRawR
    rw [tgaNext_told]
    cases tgaNextR s h M 1 a L with
    | inl g => rfl
    | inr p => obtain ⟨a', L'⟩ := p; exact ih _ _
theorem tgaPk_told {N : Nat} : ∀ f a L {k : List Qc → Dec}, (tgaPk s h M z N f a L k).told = match tgaPkR s h M N f a L with | .inl g => .bad g.1 g.2 | .inr L' => (k L').told := by
  intro f
  induction f with
  | zero => intro a L k; rfl
  | succ f ih =>
    intro a L k
    unfold tgaPk tgaPkR
    by_cases h0 : N ≤ L.length
    · rw [if_pos h0, if_pos h0]
    · rw [if_neg h0, if_neg h0, Dec.told]
      by_cases h1 : a + 1 ≤ s.size
      · rw [if_pos h1, if_pos h1]
        by_cases h2 : N - L.length < bat s a % 128 + 1
        · rw [if_pos h2, if_pos h2]; rfl
        · rw [if_neg h2, if_neg h2]
          by_cases h3 : 128 ≤ bat s a
          · rw [if_pos h3, if_pos h3, tgaNext_told]
            cases tgaNextR s h M (bat s a % 128 + 1) (a + 1) L with
            | inl g => rfl
            | inr p => obtain ⟨a', L'⟩ := p; exact ih _ _
          · rw [if_neg h3, if_neg h3, tgaRaw_told]
            cases tgaRawR s h M (bat s a % 128 + 1) (a + 1) L with
            | inl g => rfl
            | inr p => obtain ⟨a', L'⟩ := p; exact ih _ _
      · rw [if_neg h1, if_neg h1]; rfl
/-- all pixels, from a place on -/
def tgaPixR (s : ByteArray) (h : TgaHd) (M : List Qc) (a : Nat) : DRes :=
  if TgaPacked h.typ then (match tgaPkR s h M (h.W * h.H) (h.W * h.H) a [] with
    | .inl g => .bad g.1 g.2
    | .inr L => .img h.W h.H (flat (tgaPerm h L)))
  else (match tgaRawR s h M (h.W * h.H) a [] with
    | .inl g => .bad g.1 g.2
    | .inr (_, L) => .img h.W h.H (flat (tgaPerm h L)))
theorem tgaPixels_told {m a : Nat} : (tgaPixels s h M z m a).told = tgaPixR s h M a := by
  unfold tgaPixels tgaPixR
  by_cases hp : TgaPacked h.typ
  · rw [if_pos hp, if_pos hp, tgaPk_told]
    cases tgaPkR s h M (h.W * h.H) (h.W * h.H) a [] with
    | inl g => rfl
    | inr L => rfl
  · rw [if_neg hp, if_neg hp, tgaRaw_told]
    cases tgaRawR s h M (h.W * h.H) a [] with
    | inl g => rfl
    | inr p => rfl
/-- so many entries, from a place on -/
def tgaEnts (s : ByteArray) (h : TgaHd) : Nat → Nat → List Qc
  | 0, _ => []
  | n + 1, a => ecol (tgaKind h.entry : Int) (s.data.toList.drop a) :: tgaEnts s h n (a + tgaEntry h.entry)
theorem tgaPal_told : ∀ n a M {k : Nat → List Qc → Dec}, a ≤ s.size → (tgaPal s h z n a M k).told = if a + tgaEntry h.entry * n ≤ s.size then (k (a + tgaEntry h.entry * n) (M ++ tgaEnts s h n a)).told else .bad 1 s.size := by
  intro n
  induction n with
  | zero =>
    intro a M k ha
    rw [if_pos (by omega)]
    show (k a M).told = (k (a + tgaEntry h.entry * 0) (M ++ [])).told
    rw [Nat.mul_zero, Nat.add_zero, List.append_nil]
  | succ n ih =>
    intro a M k ha
    unfold tgaPal tgaEnts
    rw [Dec.told]
    have e : a + tgaEntry h.entry * (n + 1) = a + tgaEntry h.entry + tgaEntry h.entry * n := by rw [Nat.mul_add]; omega
    rw [e]
    by_cases h1 : a + tgaEntry h.entry ≤ s.size
    · rw [if_pos h1, ih _ _ h1, List.append_assoc]
      rfl
    · rw [if_neg h1, if_neg (by omega)]; rfl
/-- what the document tells behind a head -/
def tgaMapR (s : ByteArray) (h : TgaHd) : (Nat × Nat) ⊕ (Nat × List Qc) :=
  if 18 + h.name ≤ s.size then (if h.map = false then .inr (18 + h.name, [])
    else if 18 + h.name + tgaEntry h.entry * h.count ≤ s.size then .inr (18 + h.name + tgaEntry h.entry * h.count, if h.mapped then tgaEnts s h h.count (18 + h.name) else []) else .inl (1, s.size))
  else .inl (1, s.size)
def tgaRef (s : ByteArray) (h : TgaHd) : DRes := match tgaMapR s h with
  | .inl g => .bad g.1 g.2
  | .inr (a, M) => tgaPixR s h M a
theorem tgaBody_told : (tgaBody s h).told = tgaRef s h := by
  unfold tgaBody tgaRef tgaMapR
  rw [Dec.told, Dec.told, Dec.told]
  by_cases h1 : 18 + h.name ≤ s.size
  · rw [if_pos h1, if_pos h1]
    unfold tgaMap
    by_cases h2 : h.map = false
    · rw [if_pos h2, if_pos h2]; exact tgaPixels_told
    · rw [if_neg h2, if_neg h2]
      by_cases h3 : h.mapped
      · rw [if_neg (by simpa using h3), if_pos h3, Dec.told, tgaPal_told _ _ _ h1]
        by_cases h4 : 18 + h.name + tgaEntry h.entry * h.count ≤ s.size
        · rw [if_pos h4, if_pos h4, List.nil_append]; exact tgaPixels_told
        · rw [if_neg h4, if_neg h4]
      · rw [if_pos h3, if_neg h3, Dec.told]
        by_cases h4 : 18 + h.name + tgaEntry h.entry * h.count ≤ s.size
        · rw [if_pos h4, if_pos h4]; exact tgaPixels_told
        · rw [if_neg h4, if_neg h4]; rfl
  · rw [if_neg h1, if_neg h1]; rfl
end
theorem tgaDec_told (s : ByteArray) : (tgaDec s).told = match tgaFault s with | some f => .bad f.1 f.2 | none => tgaRef s (tgaHd s) := by
  unfold tgaDec tgaFault
  rw [Dec.told]
  by_cases h : s.size < 18
  · rw [if_pos h, if_pos h]; rfl
  · rw [if_neg h, if_neg h]
    cases tgaHead s with
    | some f => rfl
    | none => exact tgaBody_told
end Go.Proofs.YtlehkgkomjojmaaGreat
namespace Go.Proofs.YtlehkgkomjojmaaGreat
open Go.RowKit
set_option linter.unusedVariables false
set_option linter.unusedSimpArgs false

/-- a reading that failed: its fault's kind and place -/
def NoRead (y : Led) (a t kk aa : Nat) : Prop := (y.reason ≠ 0 ∧ kk = 4 ∧ aa = a) ∨ (y.reason = 0 ∧ kk = 1 ∧ aa = t)
theorem NoRead.ne {y : Led} {a t kk aa : Nat} (h : NoRead y a t kk aa) : kk ≠ 0 := by rcases h with ⟨_, rfl, _⟩ | ⟨_, rfl, _⟩ <;> decide
theorem led_work_ways {x : Led} (n : Int) (ok : x.Ok) (hx : x.reason = 0) : (∃ y, x.work n = (y, false) ∧ y.Ok ∧ y.reason ≠ 0 ∧ y.bytes = x.bytes) ∨ (∃ y, x.work n = (y, true) ∧ y.Ok ∧ y.reason = 0 ∧ y.bytes = x.bytes) := by
  obtain ⟨y, v, hw⟩ : ∃ y v, x.work n = (y, v) := ⟨_, _, rfl⟩
  have yok : y.Ok := by have := ok.work n; rw [hw] at this; exact this
  cases v with
  | false =>
    have yno := led_work_no (x := x) (n := n) (by rw [hw]) hx
    rw [hw] at yno
    have e : y = x.refused 3 n := yno
    exact .inl ⟨y, hw, yok, by rw [e]; simp [Led.refused], by rw [e]; rfl⟩
  | true =>
    obtain ⟨_, h1, h2, _⟩ := led_work_yes (x := x) (n := n) (by rw [hw])
    rw [hw] at h1 h2
    exact .inr ⟨y, hw, yok, h1, h2⟩
/-- what a refused or a short reading makes of the rest -/
def NoRun (x y : Led) (a t : Nat) (c : Prop) [Decidable c] (kk aa : Nat) : Prop := ∀ z k, (Dec.work 1 z a (if c then k else .give z (.fin (.bad 1 t)))).run x = ((y.give (z : Int)).1, .bad kk aa)
theorem noRun_spent {x y : Led} {a t : Nat} {c : Prop} [Decidable c] (e : x.work 1 = (y, false)) : NoRun x y a t c 4 a := by
  intro z k
  exact run_work_no e
theorem noRun_short {x y : Led} {a t : Nat} {c : Prop} [Decidable c] (e : x.work 1 = (y, true)) (h : ¬ c) : NoRun x y a t c 1 t := by
  intro z k
  rw [run_work_yes e, if_neg h]
  rfl
section
variable {w w' : World} {p g : Nat} {s : ByteArray} {f t a : Nat} {x y : Led}
/-- the ways of a reading of n bytes: what is told -/
def ReadPost (w w' : World) (p g : Nat) (s : ByteArray) (f t a n : Nat) (x : Led) (e : Ending) (no yes : Value) : Prop :=
  ∃ y, LedAt w' g y ∧ y.Ok ∧ y.bytes = x.bytes ∧ Turn [p, g] w w' ∧
    ((∃ kk aa, e = .returned (.tuple #[no, .bool false]) ∧ SrcAt w' p g s f t a ∧ NoRead y a t kk aa ∧ NoRun x y a t (a + n ≤ t) kk aa) ∨
     (e = .returned (.tuple #[yes, .bool true]) ∧ SrcAt w' p g s f t (a + n) ∧ y.reason = 0 ∧ a + n ≤ t ∧ x.work 1 = (y, true)))
theorem srcU8_ways (h : SrcAt w p g s f t a) (o : SrcOk s f t a) (k : LedAt w g x) (ok : x.Ok) (hx : x.reason = 0) :
    Calls Tryz.prog 141 #[.pointer (some ⟨p, 0, none⟩)] w fun e w' => ReadPost w w' p g s f t a 1 x e (.int .i64 0) (.int .i64 (bat s a : Int)) := by
  rcases led_work_ways 1 ok hx with ⟨y, e, yok, yr, yb⟩ | ⟨y, e, yok, yr, yb⟩
  · refine (srcU8_spent h k ok e).mono ?_
    rintro e' w' ⟨rfl, q1, q2, q3⟩
    exact ⟨y, q2, yok, yb, q3, .inl ⟨4, a, rfl, q1, .inl ⟨yr, rfl, rfl⟩, noRun_spent e⟩⟩
  · by_cases ha : a < t
    · refine (srcU8_yes h o k ok e ha).mono ?_
      rintro e' w' ⟨rfl, q1, q2, q3⟩
      exact ⟨y, q2, yok, yb, q3, .inr ⟨rfl, q1, yr, ha, e⟩⟩
    · refine (srcU8_short h o k ok e ha).mono ?_
      rintro e' w' ⟨rfl, q1, q2, q3⟩
      exact ⟨y, q2, yok, yb, q3, .inl ⟨1, t, rfl, q1, .inr ⟨yr, rfl, rfl⟩, noRun_short e ha⟩⟩
theorem srcTake_ways (n : Nat) (h : SrcAt w p g s f t a) (o : SrcOk s f t a) (k : LedAt w g x) (ok : x.Ok) (hx : x.reason = 0) :
    Calls Tryz.prog 82 #[.pointer (some ⟨p, 0, none⟩), .int .i64 (n : Int)] w fun e w' => ReadPost w w' p g s f t a n x e (.string ⟨#[]⟩) (.string (s.extract a (a + n))) := by
  rcases led_work_ways 1 ok hx with ⟨y, e, yok, yr, yb⟩ | ⟨y, e, yok, yr, yb⟩
  · refine (take_spent (n : Int) h k ok e).mono ?_
    rintro e' w' ⟨rfl, q1, q2, q3⟩
    exact ⟨y, q2, yok, yb, q3, .inl ⟨4, a, rfl, q1, .inl ⟨yr, rfl, rfl⟩, noRun_spent e⟩⟩
  · by_cases ha : a + n ≤ t
    · refine (take_yes n h o k ok e ha).mono ?_
      rintro e' w' ⟨rfl, q1, q2, q3⟩
      exact ⟨y, q2, yok, yb, q3, .inr ⟨rfl, q1, yr, ha, e⟩⟩
    · refine (take_short (n : Int) h o k ok e (.inr (by have := o.at_; omega))).mono ?_
      rintro e' w' ⟨rfl, q1, q2, q3⟩
      exact ⟨y, q2, yok, yb, q3, .inl ⟨1, t, rfl, q1, .inr ⟨yr, rfl, rfl⟩, noRun_short e ha⟩⟩
theorem srcFault_is {kk aa : Nat} (m : Int) (h : SrcAt w p g s f t a) (k : LedAt w g x) (hk : NoRead x a t kk aa) :
    Calls Tryz.prog 43 #[.pointer (some ⟨p, 0, none⟩), .int .i64 m] w fun e w' => e = .returned (.agg #[.int .i64 (kk : Int), .int .i64 m, .int .i64 (aa : Int)]) ∧ Below w.heap.size w w' := by
  rcases hk with ⟨hx, rfl, rfl⟩ | ⟨hx, rfl, rfl⟩
  · exact srcFault_spent m h k hx
  · exact srcFault_short m h k hx
end
/-- the ways of a pixel's change: what is told -/
def SetPost (w w' : World) (b g d i : Nat) (l q : List UInt8) (x : Led) (e : Ending) : Prop :=
  ∃ y, LedAt w' g y ∧ y.Ok ∧ y.bytes = x.bytes ∧
    ((e = .returned (.bool false) ∧ Turn [g] w w' ∧ y.reason ≠ 0 ∧ ∀ z a k, (Dec.work 1 z a k).run x = ((y.give (z : Int)).1, .bad 4 a)) ∨
     (e = .returned (.bool true) ∧ Turn [g, d] w w' ∧ BufAt w' b g d (over l i q) ∧ y.reason = 0 ∧ ∀ z a k, (Dec.work 1 z a k).run x = k.run y))
theorem rasSet_ways {w : World} {r g b d : Nat} {l : List UInt8} {x : Led} {X Y W H p i : Nat} {c0 c1 c2 c3 : UInt8} (h : RasAt w r g b (W : Int) (H : Int) true) (hm : BufAt w b g d l) (hL : LedAt w g x) (ok : x.Ok) (hx : x.reason = 0) (hX : X < W) (hY : Y < H) (hp : Y * W = p) (hi : 4 * (p + X) = i) (hp1 : p ≤ 1073741824) (hW : W ≤ 16384) (hH : H ≤ 16384) (hl : i + 4 ≤ l.length) (hs : l.length ≤ 1099511627776) :
    Calls Tryz.prog 109 #[.pointer (some ⟨r, 0, none⟩), .int .i64 (X : Int), .int .i64 (Y : Int), .agg #[.int .u8 (c0.toNat : Int), .int .u8 (c1.toNat : Int), .int .u8 (c2.toNat : Int), .int .u8 (c3.toNat : Int)]] w fun e w' => SetPost w w' b g d i l [c0, c1, c2, c3] x e := by
  rcases led_work_ways 1 ok hx with ⟨y, e, yok, yr, yb⟩ | ⟨y, e, yok, yr, yb⟩
  · refine (rasSet_spent h hm hL ok e hX hY hp hi hp1 hW hH hl hs).mono ?_
    rintro e' w' ⟨rfl, q1, q2⟩
    exact ⟨y, q1, yok, yb, .inl ⟨rfl, q2, yr, fun z a k => run_work_no e⟩⟩
  · refine (rasSet_yes h hm hL ok e hX hY hp hi hp1 hW hH hl hs).mono ?_
    rintro e' w' ⟨rfl, q1, q2, q3⟩
    exact ⟨y, q2, yok, yb, .inr ⟨rfl, q3, q1, yr, fun z a k => run_work_yes e⟩⟩
/-- a raster in the making: source, ledger, raster, bytes, a fault's box -/
structure PixI (w0 w : World) (p g r b d f fr t a W H : Nat) (s : ByteArray) (l : List UInt8) (x : Led) : Prop where
  S : SrcAt w p g s fr t a
  L : LedAt w g x
  R : RasAt w r g b (W : Int) (H : Int) true
  B : BufAt w b g d l
  F : FB w f 0 0 0
  T : Turn [p, g, d] w0 w
  nf : w0.heap.size ≤ f
section
variable {w0 w w' : World} {p g r b d f fr t a a' W H : Nat} {s : ByteArray} {l l' : List UInt8} {x y : Led} {i : Nat} {tt : TypeId} {cs : Array Value}
theorem PixI.take (P : PixI w0 w p g r b d f fr t a W H s l x) (k : Turn [p, g] w w') (s' : SrcAt w' p g s fr t a') (l' : LedAt w' g y) : PixI w0 w' p g r b d f fr t a' W H s l y := by
  obtain ⟨S, L, R, B, F, T, nf⟩ := P
  refine ⟨s', l', Blk.turn R k ?_, B.turn k ?_ ?_, F.turn k ?_, T.trans (k.mono (by simp)), nf⟩
  all_goals simp only [List.mem_cons, List.not_mem_nil, or_false, not_or]
  · exact ⟨Blk.ne_ R S (by decide), Blk.ne_ R L (by decide)⟩
  · exact ⟨Blk.ne_ B.blk S (by decide), Blk.ne_ B.blk L (by decide)⟩
  · exact ⟨Blk.ne_ B.row S (by decide), Blk.ne_ B.row L (by decide)⟩
  · exact ⟨Blk.ne_ F S (by decide), Blk.ne_ F L (by decide)⟩
theorem PixI.led (P : PixI w0 w p g r b d f fr t a W H s l x) (k : Turn [g] w w') (l' : LedAt w' g y) : PixI w0 w' p g r b d f fr t a W H s l y :=
  P.take (k.mono (by simp)) (P.S.turn k (by simpa using Blk.ne_ P.S P.L (by decide))) l'
theorem PixI.set (P : PixI w0 w p g r b d f fr t a W H s l x) (k : Turn [g, d] w w') (b' : BufAt w' b g d l') (m : LedAt w' g y) : PixI w0 w' p g r b d f fr t a W H s l' y := by
  obtain ⟨S, L, R, B, F, T, nf⟩ := P
  refine ⟨S.turn k ?_, m, Blk.turn R k ?_, b', F.turn k ?_, T.trans (k.mono (by simp)), nf⟩
  all_goals simp only [List.mem_cons, List.not_mem_nil, or_false, not_or]
  · exact ⟨Blk.ne_ S L (by decide), Blk.ne_ S B.row (by decide)⟩
  · exact ⟨Blk.ne_ R L (by decide), Blk.ne_ R B.row (by decide)⟩
  · exact ⟨Blk.ne_ F L (by decide), Blk.ne_ F B.row (by decide)⟩
/-- a step on a new block of another type -/
theorem PixI.own (P : PixI w0 w p g r b d f fr t a W H s l x) {k : Nat} (hk : Blk w k tt cs) (hn : w0.heap.size ≤ k) (u : Turn [k] w w') (h1 : tt ≠ 162) (h2 : tt ≠ 160) (h3 : tt ≠ 165) (h4 : tt ≠ 225) (h5 : tt ≠ 5) (h6 : tt ≠ 34) : PixI w0 w' p g r b d f fr t a W H s l x := by
  obtain ⟨S, L, R, B, F, T, nf⟩ := P
  exact ⟨S.turn u (by simpa using Blk.ne_ S hk h1.symm), L.turn u (by simpa using Blk.ne_ L hk h2.symm), Blk.turn R u (by simpa using Blk.ne_ R hk h3.symm), B.turn u (by simpa using Blk.ne_ B.blk hk h4.symm) (by simpa using Blk.ne_ B.row hk h5.symm), F.turn u (by simpa using Blk.ne_ F hk h6.symm), T.next u (fun i hi => .inr (by simp only [List.mem_cons, List.not_mem_nil, or_false] at hi; omega)), nf⟩
theorem PixI.below (P : PixI w0 w p g r b d f fr t a W H s l x) (k : Below w.heap.size w w') : PixI w0 w' p g r b d f fr t a W H s l x :=
  P.take (Turn.of_below k) (Blk.below P.S k (Blk.lt P.S)) (Blk.below P.L k (Blk.lt P.L))
theorem PixI.drew (P : PixI w0 w p g r b d f fr t a W H s l x) : PixI w0 w.drew p g r b d f fr t a W H s l x := ⟨P.S, P.L, P.R, ⟨P.B.blk, P.B.row⟩, P.F, P.T.drew, P.nf⟩
theorem PixI.alloc (P : PixI w0 w p g r b d f fr t a W H s l x) (o : Obj) : PixI w0 (w.alloc o) p g r b d f fr t a W H s l x := P.below ((Below.refl _ _).alloc (Nat.le_refl _) _)
end
/-- what a reading of pixels leaves: ledger, raster, bytes -/
structure PixE (w0 w : World) (p g r b d W H z : Nat) (l : List UInt8) (y : Led) : Prop where
  L : LedAt w g y
  R : RasAt w r g b (W : Int) (H : Int) true
  B : BufAt w b g d l
  len : l.length = z
  ok : y.Ok
  y1 : (z : Int) ≤ y.bytes
  T : Turn [p, g, d] w0 w
theorem PixI.fin {w0 w : World} {p g r b d f fr t a W H z : Nat} {s : ByteArray} {l : List UInt8} {x : Led} {u v e : Value} (P : PixI w0 w p g r b d f fr t a W H s l x) (hl : l.length = z) (ok : x.Ok) (hb : (z : Int) ≤ x.bytes) : PixE w0 (st3 w f u v e) p g r b d W H z l x :=
  ⟨Blk.st3 P.L (Blk.ne_ P.L P.F (by decide)), Blk.st3 P.R (Blk.ne_ P.R P.F (by decide)), ⟨Blk.st3 P.B.blk (Blk.ne_ P.B.blk P.F (by decide)), Blk.st3 P.B.row (Blk.ne_ P.B.row P.F (by decide))⟩, hl, ok, hb, Turn.st3 P.T (.inr P.nf)⟩
theorem PixI.src {w0 w : World} {p g r b d f fr t a W H : Nat} {s : ByteArray} {l : List UInt8} {x : Led} {u v e : Value} (P : PixI w0 w p g r b d f fr t a W H s l x) : SrcAt (st3 w f u v e) p g s fr t a := Blk.st3 P.S (Blk.ne_ P.S P.F (by decide))
theorem over_at {a b : List UInt8} {z : Nat} (ha : a.length = z) (q : List UInt8) (hb : q.length ≤ b.length) : over (a ++ b) z q = a ++ q ++ b.drop q.length := by
  subst ha
  unfold over
  rw [List.take_left, ← List.drop_drop, List.drop_left]
end Go.Proofs.YtlehkgkomjojmaaGreat
namespace Go.Proofs.YtlehkgkomjojmaaGreat
open Go.RowKit
set_option linter.unusedVariables false
set_option linter.unusedSimpArgs false

/-- the colours of the first j entries -/
def ents (k : Int) (z : Nat) (s : ByteArray) (j : Nat) : List Qc := (List.range j).map fun i => ecol k (s.data.toList.drop (i * z))
theorem ents_succ (k : Int) (z : Nat) (s : ByteArray) (j : Nat) : ents k z s (j + 1) = ents k z s j ++ [ecol k (s.data.toList.drop (j * z))] := by simp [ents, List.range_succ]
theorem ents_len (k : Int) (z : Nat) (s : ByteArray) (j : Nat) : (ents k z s j).length = j := by simp [ents]
theorem extract_list' (s : ByteArray) (a b : Nat) : (s.extract a b).data.toList = (s.data.toList.drop a).take (b - a) := by
  simp [ByteArray.data_extract, Array.toList_extract, List.extract_eq_take_drop]
end Go.Proofs.YtlehkgkomjojmaaGreat
namespace Go.Proofs.YtlehkgkomjojmaaGreat
open Go.RowKit
set_option linter.unusedVariables false
set_option linter.unusedSimpArgs false

theorem tgaKind_size {e : Nat} (h : TgaCol e) : psize (tgaKind e : Int) = (tgaEntry e : Int) ∧ 1 ≤ tgaEntry e ∧ tgaEntry e ≤ 4 := by
  rcases h with rfl | rfl | rfl | rfl <;> decide
theorem flat_set : ∀ (L : List Qc) (i : Nat) (c : Qc), i < L.length → over (flat L) (4 * i) [c.r, c.g, c.b, c.a] = flat (L.set i c) := by
  intro L i c hi
  have e : L.set i c = L.take i ++ [c] ++ L.drop (i + 1) := by
    rw [List.set_eq_take_append_cons_drop, if_pos hi]
    simp
  have f : flat L = flat (L.take i) ++ flat (L.drop i) := by rw [← flat_append, List.take_append_drop]
  have l1 : (flat (L.take i)).length = 4 * i := by rw [flat_len, List.length_take]; omega
  have l2 : (flat (L.drop i)).length = 4 * (L.length - i) := by rw [flat_len, List.length_drop]
  have d : flat (L.drop i) = flat [L[i]] ++ flat (L.drop (i + 1)) := by
    rw [← flat_append, List.singleton_append, List.getElem_cons_drop]
  rw [e, f, over_at l1 _ (by rw [l2]; simp; omega), flat_append, flat_append]
  congr 1
  rw [d]
  show List.drop 4 (flat [L[i]] ++ flat (L.drop (i + 1))) = _
  rw [show (4 : Nat) = (flat [L[i]]).length by rw [flat_len]; rfl, List.drop_left]
theorem tgaPerm_nil (h : TgaHd) : tgaPerm h [] = List.replicate (h.W * h.H) ⟨0, 0, 0, 0⟩ := rfl
theorem tgaPerm_next (h : TgaHd) (L : List Qc) (q : Qc) : tgaPerm h (L ++ [q]) = (tgaPerm h L).set (h.place L.length) q := by
  unfold tgaPerm
  rw [List.length_append, List.length_singleton, List.range_succ, List.foldl_append, List.foldl_cons, List.foldl_nil]
  have e1 : (L ++ [q]).getD L.length ⟨0, 0, 0, 0⟩ = q := by simp
  rw [e1]
  congr 1
  have key : ∀ (ks : List Nat) (acc : List Qc), (∀ k ∈ ks, k < L.length) → ks.foldl (fun acc k => acc.set (h.place k) ((L ++ [q]).getD k ⟨0, 0, 0, 0⟩)) acc = ks.foldl (fun acc k => acc.set (h.place k) (L.getD k ⟨0, 0, 0, 0⟩)) acc := by
    intro ks
    induction ks with
    | nil => intro acc _; rfl
    | cons k ks ih =>
      intro acc hk
      have hkl := hk k (by simp)
      rw [List.foldl_cons, List.foldl_cons, ih _ fun x hx => hk x (by simp [hx])]
      congr 2
      rw [List.getD_eq_getElem?_getD, List.getD_eq_getElem?_getD, List.getElem?_append_left hkl]
  exact key _ _ fun k hk => by simpa using hk
theorem tgaPerm_over (h : TgaHd) (L : List Qc) (q : Qc) (w1 : 1 ≤ h.W) (hL : L.length < h.W * h.H) : over (flat (tgaPerm h L)) (4 * h.place L.length) [q.r, q.g, q.b, q.a] = flat (tgaPerm h (L ++ [q])) := by
  rw [tgaPerm_next, flat_set _ _ _ (by rw [tgaPerm_len]; exact h.place_lt w1 hL)]
theorem flat_zero (n : Nat) : flat (List.replicate n ⟨0, 0, 0, 0⟩) = List.replicate (4 * n) 0 := by
  induction n with
  | zero => rfl
  | succ n ih =>
    rw [List.replicate_succ, ← List.singleton_append, flat_append, ih]
    rfl
def PalReadPost (w w' : World) (p b g d q m a0 : Nat) (s : ByteArray) (h : TgaHd) (y : Led) (e : Ending) : Prop :=
  ∃ (y' : Led) (M : List Qc) (a' : Nat) (rc : Int), e = .returned (.int .i64 rc) ∧ PalHas w' p b g d m M ∧ LedAt w' g y' ∧ y'.Ok ∧ y'.bytes = y.bytes ∧ Turn [p, d, q, g] w w' ∧ SrcAt w' q g s 0 s.size a' ∧ a' ≤ s.size ∧
    ((rc = 0 ∧ M.length = m ∧ y'.reason = 0 ∧ ∀ z k, (tgaPal s h z m a0 [] k).run y = (k a' M).run y') ∨
     (rc = 5 ∧ ∃ kk aa, NoRead y' a' s.size kk aa ∧ ∀ z k, (tgaPal s h z m a0 [] k).run y = ((y'.give (z : Int)).1, .bad kk aa)))
set_option maxRecDepth 100000 in
set_option maxHeartbeats 2000000 in
theorem palRead_ways {w : World} {p b g d m q a0 : Nat} {s : ByteArray} {h : TgaHd} {y : Led} (hcol : TgaCol h.entry) (P0 : PalHas w p b g d m []) (hm : m ≤ 65535) (S0 : SrcAt w q g s 0 s.size a0) (ha0 : a0 ≤ s.size) (hsz : s.size ≤ 1099511627776) (L0 : LedAt w g y) (ok : y.Ok) (hr : y.reason = 0) :
    Calls Tryz.prog 176 #[.pointer (some ⟨p, 0, none⟩), .pointer (some ⟨q, 0, none⟩), .int .i64 (m : Int), .int .i64 (tgaKind h.entry : Int)] w fun e w' => PalReadPost w w' p b g d q m a0 s h y e := by
  obtain ⟨hk, hz, hz4⟩ := tgaKind_size hcol
  obtain ⟨k, hkk⟩ : ∃ k : Int, (tgaKind h.entry : Int) = k := ⟨_, rfl⟩
  obtain ⟨z, hzz⟩ : ∃ z, tgaEntry h.entry = z := ⟨_, rfl⟩
  have HKK := Lib.hid hkk
  have HZZ := Lib.hid hzz
  rw [hkk, hzz] at hk
  rw [hzz] at hz hz4
  rw [hkk]
  have HS0 := fun w => size_any k w
  rw [hk] at HS0
  have HS := Lib.hid HS0
  have HK : Hid (psize k = (z : Int)) := Lib.hid hk
  have hzb : ((z : Int) == 0) = false := beq_eq_false_iff_ne.2 (by omega)
  have hz0 : ¬ (z : Int) = 0 := by omega
  have n0 : ¬ (m : Int) < 0 := by omega
  have n1 : ¬ (m : Int) - (0 : Int) < (m : Int) := by omega
  have hlg := Blk.lt L0
  have hlq := Blk.lt S0
  have hpbd := Lib.hid P0.pbd
  have hled := Lib.hid (P0.led L0)
  have hsrc := Lib.hid (P0.src S0)
  have hqg := Lib.hid (SrcAt.ne S0 L0)
  have HH := Lib.hid P0
  have HQ := Lib.hid S0
  have HL := Lib.hid L0
  have HY := Lib.hid (And.intro ok hr)
  have HA0 := Lib.hid (And.intro ha0 hsz)
  clear P0 S0 L0 hk HS0 ok hr hkk hzz hcol ha0 hsz
  go_enter Tryz.func176, Tryz.ntmps176
  go_wp2_with (go_at_call 173; refine (HS.out _).mono ?_; rintro e w1 ⟨rfl, b1⟩; have P1 := HH.out.below b1; have d1 : w1.cell? ⟨p, 1, none⟩ = some (.int .i64 0) := P1.1.n_; have d2 := P1.1.m_)
  go_quiet (fail)
  have HI : Hid (PalHas (w1.drewN nq) p b g d m [] ∧ SrcAt (w1.drewN nq) q g s 0 s.size a0 ∧ LedAt (w1.drewN nq) g y ∧ Turn [p, d, q, g] w (w1.drewN nq)) := Lib.hid ⟨P1.turn (S := []) ((Turn.refl _ _).drewN nq) (by simp) (by simp) (by simp), Blk.drewN (Blk.below HQ.out b1 hlq) nq, Blk.drewN (Blk.below HL.out b1 hlg) nq, (Turn.of_below b1).drewN nq⟩
  clear P1 d1 d2 b1
  go_wp2_with fail
  go_loopg [10, 11, 12, 13, 40] m (fun gh s10 s11 s12 s13 x wr => ∃ (j gk a : Nat) (y' : Led) (M : List Qc), gk = gh ∧ x = .int .i64 (j : Int) ∧ Hid (m = j + gk) ∧ j ≤ m ∧ Hid (M.length = j) ∧ Hid (PalHas wr p b g d m M ∧ SrcAt wr q g s 0 s.size a ∧ LedAt wr g y' ∧ Turn [p, d, q, g] w wr) ∧ Hid (a ≤ s.size ∧ y'.Ok ∧ y'.reason = 0 ∧ y'.bytes = y.bytes ∧ ∀ zz k, (tgaPal s h zz m a0 [] k).run y = (tgaPal s h zz gk a M k).run y'))
  case atStart => exact ⟨0, m, a0, y, [], rfl, rfl, Lib.hid (by omega), by omega, Lib.hid rfl, HI, Lib.hid ⟨HA0.out.1, HY.out.1, HY.out.2, rfl, fun _ _ => rfl⟩⟩
  case round =>
    obtain ⟨j, gh, a, y', M, rfl, rfl, hg, hj, hM, hH, hR⟩ := hrel
    obtain ⟨hp, hq, hl, ht⟩ := hH.out
    obtain ⟨ha, yok, yr, yb, hrun⟩ := hR.out
    by_cases hlt' : j < m
    · have j0 : (j : Int) < (m : Int) := by omega
      have hso : SrcOk s 0 s.size a := ⟨by omega, ha, Nat.le_refl _, HA0.out.2⟩
      have HT := Lib.hid (srcTake_ways z hq hso hl yok yr)
      have HP := Lib.hid hp
      have HTT := Lib.hid ht
      have HRUN := Lib.hid hrun
      have HYB := Lib.hid yb
      have HAA := Lib.hid ha
      obtain ⟨x, hx⟩ : ∃ x, x = s.extract a (a + z) := ⟨_, rfl⟩
      rw [← hx] at HT
      have HXX := Lib.hid hx
      obtain ⟨qc, hqc⟩ : ∃ qc, qc = ecol k (s.data.toList.drop a) := ⟨_, rfl⟩
      have HQC := Lib.hid hqc
      have hroom : Hid (M.length < m) := Lib.hid (by rw [hM.out]; exact hlt')
      have gh1 : gh = (gh - 1) + 1 := by have := hg.out; omega
      have HGH := Lib.hid gh1
      clear hp hq hl ht hH hR hso hx hqc ha yok yr yb hrun gh1
      go_wp2_with (first
        | (go_at_call 82; refine HT.out.mono ?_; rintro e w3 ⟨y3, l3, ok3, b3, t3, hor⟩; have P3 := HP.out.turn t3 (by simp [hsrc.out.1, hled.out.1]) (by simp [hsrc.out.2.1, hled.out.2.1]) (by simp [hsrc.out.2.2, hled.out.2.2]); have T3 := HTT.out.trans (t3.mono (S' := [p, d, q, g]) (by simp)); rcases hor with ⟨kk, aa, rfl, q3, nr, nrun⟩ | ⟨rfl, q3, yr3, hle, hw3⟩)
        | (go_at_call 196; have hxz : x.size = z := (by rw [HXX.out]; simp; omega); have hxl : x.data.toList = (s.data.toList.drop a).take z := (by rw [HXX.out, extract_list', Nat.add_sub_cancel_left]); have HE0 := entry_any x k w3 (by rw [HK.out]; omega) (by rw [HK.out, hxz]; omega) (by omega); rw [hxl, ecol_take (by rw [HK.out]; omega) (by rw [HK.out]; omega), ← HQC.out] at HE0; simp only [Qc.v] at HE0; refine HE0.mono ?_; clear HE0 hxz hxl; rintro e w4 ⟨rfl, b4⟩; have P4 := (P3.below b4).below ((Below.refl _ _).alloc (Nat.le_refl _) (.cells #[.int .u8 (qc.r.toNat : Int), .int .u8 (qc.g.toNat : Int), .int .u8 (qc.b.toNat : Int), .int .u8 (qc.a.toNat : Int)] 68)); have HA := Lib.hid (has_add P4 hroom.out (by omega) qc))
        | (go_at_call 143; refine HA.out.mono ?_; rintro e w5 ⟨rfl, p5, t5⟩))
      · go_ret
        exact ⟨y3, M, a, 5, rfl, P3, l3, ok3, b3.trans HYB.out, T3, q3, HAA.out, .inr ⟨rfl, kk, aa, nr, fun zz k => by
          rw [HRUN.out, HGH.out]
          unfold tgaPal
          rw [HZZ.out]
          exact nrun zz _⟩⟩
      · go_roundg (m - (j + 1))
        case measure => have := hg.out; omega
        case rel =>
          refine ⟨j + 1, m - (j + 1), a + z, y3, M ++ [qc], rfl, by go_num, Lib.hid (by have := hg.out; omega), by omega, Lib.hid (by rw [List.length_append, hM.out]; rfl), Lib.hid ⟨p5, ?_, ?_, ?_⟩, Lib.hid ⟨hle, ok3, yr3, b3.trans HYB.out, fun zz k => ?_⟩⟩
          · exact Blk.turn (Blk.alloc (Blk.below q3 b4 (Blk.lt q3)) _) t5 (by simp [hsrc.out.1.symm, hsrc.out.2.2.symm])
          · exact Blk.turn (Blk.alloc (Blk.below l3 b4 (Blk.lt l3)) _) t5 (by simp [hled.out.1.symm, hled.out.2.2.symm])
          · exact (T3.trans ((Turn.of_below b4).alloc _)).trans (t5.mono (by simp))
          · have e : gh = m - (j + 1) + 1 := by have := hg.out; omega
            rw [HRUN.out, e]
            show (Dec.work 1 zz a _).run y' = _
            rw [run_work_yes hw3, HZZ.out, if_pos hle, HKK.out, ← HQC.out]
    · obtain rfl : j = m := by omega
      clear hp hq hl ht ha yok yr yb hrun
      go_wp2_with fail
      go_ret
      obtain ⟨hp, hq, hl, ht⟩ := hH.out
      obtain ⟨ha, yok, yr, yb, hrun⟩ := hR.out
      have e : gh = 0 := by have := hg.out; omega
      subst e
      exact ⟨y', M, a, 0, rfl, hp, hl, yok, yb, ht, hq, ha, .inl ⟨rfl, hM.out, yr, fun z k => hrun z k⟩⟩
end Go.Proofs.YtlehkgkomjojmaaGreat
namespace Go.Proofs.YtlehkgkomjojmaaGreat
open Go.RowKit
set_option linter.unusedVariables false
set_option linter.unusedSimpArgs false

/-- what a decoder leaves: as its budget's steps tell -/
def DecPost (fm : Int) (D : Dec) (x : Led) (w w' : World) (p g : Nat) (e : Ending) : Prop :=
  ∃ y, LedAt w' g y ∧ y.Ok ∧ Turn [p, g] w w' ∧
    ((∃ k a : Nat, k ≠ 0 ∧ D.run x = (y, .bad k a) ∧ e = .returned (.tuple #[.pointer none, .agg #[.int .i64 (k : Int), .int .i64 fm, .int .i64 (a : Int)]])) ∨
     (∃ (W H : Nat) (l : List UInt8) (r b d : Nat), D.run x = (y, .img W H l) ∧ e = .returned (.tuple #[.pointer (some ⟨r, 0, none⟩), .agg #[.int .i64 0, .int .i64 0, .int .i64 0]]) ∧ RasAt w' r g b (W : Int) (H : Int) true ∧ BufAt w' b g d l ∧ w.heap.size ≤ r ∧ w.heap.size ≤ b ∧ w.heap.size ≤ d))
theorem give_all {y : Led} {l : List UInt8} {z : Nat} (h : l.length = z) (hb : (z : Int) ≤ y.bytes) : y.give (l.length : Int) = ((y.give (z : Int)).1, true) := by
  rw [h]
  unfold Led.give
  rw [if_neg (by omega)]
end Go.Proofs.YtlehkgkomjojmaaGreat
namespace Go.Proofs.YtlehkgkomjojmaaGreat
open Go.RowKit
set_option linter.unusedVariables false
set_option linter.unusedSimpArgs false

end Go.Proofs.YtlehkgkomjojmaaGreat
namespace Go.Proofs.YtlehkgkomjojmaaGreat
open Go.RowKit
set_option linter.unusedVariables false

/-- the ways of a new raster -/
def NewPost (w w' : World) (g W H a : Nat) (y : Led) (e : Ending) : Prop :=
  ∃ y2, LedAt w' g y2 ∧ y2.Ok ∧ Turn [g] w w' ∧
    ((e = .returned (.tuple #[.pointer none, .int .i64 4]) ∧ y2.reason ≠ 0 ∧ ∀ k, (Dec.sides W H a (.take (4 * (W * H)) a k)).run y = (y2, .bad 4 a)) ∨
     (∃ r b d : Nat, e = .returned (.tuple #[.pointer (some ⟨r, 0, none⟩), .int .i64 0]) ∧ w.heap.size ≤ r ∧ w.heap.size ≤ b ∧ w.heap.size ≤ d ∧ RasAt w' r g b (W : Int) (H : Int) true ∧ BufAt w' b g d (List.replicate (4 * (W * H)) 0) ∧ y2.reason = 0 ∧ y2.bytes = y.bytes + ((4 * (W * H) : Nat) : Int) ∧ ∀ k, (Dec.sides W H a (.take (4 * (W * H)) a k)).run y = k.run y2))
theorem rasNew_ways {w : World} {g W H : Nat} {y : Led} (a : Nat) (h1 : 1 ≤ W) (h2 : W ≤ 16384) (h3 : 1 ≤ H) (h4 : H ≤ 16384) (l : LedAt w g y) (ok : y.Ok) (hr : y.reason = 0) :
    Calls Tryz.prog 41 #[.pointer (some ⟨g, 0, none⟩), .int .i64 (W : Int), .int .i64 (H : Int)] w fun e w' => NewPost w w' g W H a y e := by
  have hN1 : W * H ≤ 16384 * 16384 := Nat.mul_le_mul h2 h4
  have hs : sideHyp (W : Int) (H : Int) := ⟨⟨by omega, by omega⟩, ⟨by omega, by omega⟩⟩
  obtain ⟨y2, v2, hw2⟩ : ∃ y2 v2, y.sides W H = (y2, v2) := ⟨_, _, rfl⟩
  have y2ok : y2.Ok := by have := ok.sides W H; rw [hw2] at this; exact this
  cases v2 with
  | false =>
    obtain ⟨n1, n2⟩ := led_sides_no (x := y) (a := W) (b := H) (by rw [hw2]) hr
    rw [hw2] at n1
    refine (rasNew_sides hs l ok hw2).mono ?_
    rintro e w' ⟨rfl, l', t'⟩
    exact ⟨y2, l', y2ok, t', .inl ⟨rfl, n1, fun k => run_sides_no hw2⟩⟩
  | true =>
    obtain ⟨n1, _⟩ := led_sides_yes (x := y) (a := W) (b := H) (by rw [hw2])
    rw [hw2] at n1
    have n1' : y2 = y := n1
    subst n1'
    obtain ⟨y3, v3, hw3⟩ : ∃ y3 v3, y2.take ((4 * (W * H) : Nat) : Int) = (y3, v3) := ⟨_, _, rfl⟩
    have y3ok : y3.Ok := by have := ok.take ((4 * (W * H) : Nat) : Int); rw [hw3] at this; exact this
    cases v3 with
    | false =>
      obtain ⟨m1, m2⟩ := led_take_no (x := y2) (n := ((4 * (W * H) : Nat) : Int)) (by rw [hw3]) hr
      rw [hw3] at m1
      refine (rasNew_take (y := W * H) (z := 4 * (W * H)) hs rfl (by omega) (by omega) l ok hw2 hw3).mono ?_
      rintro e w' ⟨rfl, l', t'⟩
      exact ⟨y3, l', y3ok, t', .inl ⟨rfl, m1, fun k => by rw [run_sides_yes hw2, run_take_no hw3]⟩⟩
    | true =>
      obtain ⟨_, m1, m2, _⟩ := led_take_yes (x := y2) (n := ((4 * (W * H) : Nat) : Int)) (by rw [hw3])
      rw [hw3] at m1 m2
      refine (rasNew_yes (y := W * H) (z := 4 * (W * H)) hs rfl (by omega) (by omega) l ok hw2 hw3).mono ?_
      rintro e w' ⟨r, b, d, rfl, hr', hb', hd', R', B', l', t'⟩
      exact ⟨y3, l', y3ok, t', .inr ⟨r, b, d, rfl, hr', hb', hd', R', B', m1, m2, fun k => by rw [run_sides_yes hw2, run_take_yes hw3]⟩⟩
end Go.Proofs.YtlehkgkomjojmaaGreat
