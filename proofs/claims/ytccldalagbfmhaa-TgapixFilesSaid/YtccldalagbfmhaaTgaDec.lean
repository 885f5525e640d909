/- Plain: a file of TGA's, as a decoder takes it. -/
import Derived.Test.YtccldalagbfmhaaTgaLaw
import Derived.Test.YtccldalagbfmhaaPal1
namespace Go.Proofs.Ytccldalagbfmhaa
set_option linter.unusedVariables false

/-- a colour of a pixel's bytes -/
def tgaQ (s : ByteArray) (h : TgaHd) (a : Nat) : Qc :=
  if h.depth = 16 ∧ h.alpha = 1 ∧ bat s (a + 1) < 128 then { ecol (tgaKind h.depth : Int) (s.data.toList.drop a) with a := 0 }
  else if h.depth = 32 ∧ h.alpha = 0 then { ecol (tgaKind h.depth : Int) (s.data.toList.drop a) with a := 255 }
  else ecol (tgaKind h.depth : Int) (s.data.toList.drop a)
/-- a pixel at a place, or what is wrong -/
def tgaPixel (s : ByteArray) (h : TgaHd) (M : List Qc) (a : Nat) : (Nat × Nat) ⊕ Qc :=
  if h.depth ≠ 8 then .inr (tgaQ s h a)
  else if ¬ h.mapped then .inr ⟨b8 s a, b8 s a, b8 s a, 255⟩
  else if h.first ≤ bat s a ∧ bat s a - h.first < M.length then .inr (M.getD (bat s a - h.first) ⟨0, 0, 0, 0⟩) else .inl (2, a)
theorem tgaPixel_bad {s : ByteArray} {h : TgaHd} {M : List Qc} {a : Nat} {g : Nat × Nat} (e : tgaPixel s h M a = .inl g) : g = (2, a) := by
  unfold tgaPixel at e
  split at e
  · cases e
  · split at e
    · cases e
    · split at e
      · cases e
      · cases e; rfl
def tgaPuts (z a : Nat) : Nat → List Qc → Qc → (List Qc → Dec) → Dec
  | 0, L, q, k => k L
  | n + 1, L, q, k => .work 1 z a (tgaPuts z a n (L ++ [q]) q k)
def tgaNext (s : ByteArray) (h : TgaHd) (M : List Qc) (z times a : Nat) (L : List Qc) (k : Nat → List Qc → Dec) : Dec :=
  .work 1 z a (if a + h.size ≤ s.size then (match tgaPixel s h M a with
    | .inl g => .give z (.fin (.bad g.1 g.2))
    | .inr q => tgaPuts z (a + h.size) times L q (k (a + h.size)))
  else .give z (.fin (.bad 1 s.size)))
def tgaRaw (s : ByteArray) (h : TgaHd) (M : List Qc) (z : Nat) : Nat → Nat → List Qc → (Nat → List Qc → Dec) → Dec
  | 0, a, L, k => k a L
  | n + 1, a, L, k => tgaNext s h M z 1 a L fun a L => tgaRaw s h M z n a L k
def tgaPk (s : ByteArray) (h : TgaHd) (M : List Qc) (z N : Nat) : Nat → Nat → List Qc → (List Qc → Dec) → Dec
  | 0, a, L, k => k L
  | f + 1, a, L, k => if N ≤ L.length then k L else .work 1 z a (if a + 1 ≤ s.size then
      (if N - L.length < bat s a % 128 + 1 then .give z (.fin (.bad 2 a))
       else if 128 ≤ bat s a then tgaNext s h M z (bat s a % 128 + 1) (a + 1) L fun a L => tgaPk s h M z N f a L k
       else tgaRaw s h M z (bat s a % 128 + 1) (a + 1) L fun a L => tgaPk s h M z N f a L k)
    else .give z (.fin (.bad 1 s.size)))
/-- the pixels at their places -/
def tgaPerm (h : TgaHd) (L : List Qc) : List Qc := (List.range L.length).foldl (fun acc k => acc.set (h.place k) (L.getD k ⟨0, 0, 0, 0⟩)) (List.replicate (h.W * h.H) ⟨0, 0, 0, 0⟩)
theorem tgaPerm_len (h : TgaHd) (L : List Qc) : (tgaPerm h L).length = h.W * h.H := by
  unfold tgaPerm
  have key : ∀ (ks : List Nat) (acc : List Qc), (ks.foldl (fun acc k => acc.set (h.place k) (L.getD k ⟨0, 0, 0, 0⟩)) acc).length = acc.length := by
    intro ks
    induction ks with
    | nil => intro acc; rfl
    | cons k ks ih => intro acc; rw [List.foldl_cons, ih, List.length_set]
  rw [key, List.length_replicate]
def tgaEnd (h : TgaHd) (m : Nat) (L : List Qc) : Dec := .give m (.fin (.img h.W h.H (flat (tgaPerm h L))))
def tgaPixels (s : ByteArray) (h : TgaHd) (M : List Qc) (z m a : Nat) : Dec :=
  if TgaPacked h.typ then tgaPk s h M z (h.W * h.H) (h.W * h.H) a [] (tgaEnd h m) else tgaRaw s h M z (h.W * h.H) a [] fun _ L => tgaEnd h m L
def tgaPal (s : ByteArray) (h : TgaHd) (z : Nat) : Nat → Nat → List Qc → (Nat → List Qc → Dec) → Dec
  | 0, a, M, k => k a M
  | n + 1, a, M, k => .work 1 z a (if a + tgaEntry h.entry ≤ s.size then tgaPal s h z n (a + tgaEntry h.entry) (M ++ [ecol (tgaKind h.entry : Int) (s.data.toList.drop a)]) k else .give z (.fin (.bad 1 s.size)))
def tgaMap (s : ByteArray) (h : TgaHd) (z a : Nat) : Dec :=
  if h.map = false then tgaPixels s h [] z 0 a
  else if ¬ h.mapped then .work 1 z a (if a + tgaEntry h.entry * h.count ≤ s.size then tgaPixels s h [] z 0 (a + tgaEntry h.entry * h.count) else .give z (.fin (.bad 1 s.size)))
  else .hold (4 * h.count) z a (tgaPal s h (z + 4 * h.count) h.count a [] fun a M => tgaPixels s h M (z + 4 * h.count) (4 * h.count) a)
def tgaBody (s : ByteArray) (h : TgaHd) : Dec :=
  .sides h.W h.H 18 (.take (4 * (h.W * h.H)) 18 (.work 1 (4 * (h.W * h.H)) 18 (if 18 + h.name ≤ s.size then tgaMap s h (4 * (h.W * h.H)) (18 + h.name) else .give (4 * (h.W * h.H)) (.fin (.bad 1 s.size)))))
def tgaDec (s : ByteArray) : Dec :=
  .work 1 0 0 (if s.size < 18 then .fin (.bad 1 s.size) else match tgaHead s with
    | some f => .fin (.bad f.1 f.2)
    | none => tgaBody s (tgaHd s))
section
variable {s : ByteArray} {h : TgaHd} {M : List Qc} {z e : Nat}
theorem tgaPuts_bal {a : Nat} (ha : a ≤ e) : ∀ n L q {k : List Qc → Dec}, (∀ L', L'.length = L.length + n → (k L').bal e z) → (tgaPuts z a n L q k).bal e z := by
  intro n
  induction n with
  | zero => intro L q k hk; exact hk _ rfl
  | succ n ih =>
    intro L q k hk
    refine ⟨rfl, ha, ih _ _ fun L' hL => hk _ ?_⟩
    rw [hL, List.length_append, List.length_singleton]
    omega
theorem tgaNext_bal {times a : Nat} {L : List Qc} {k : Nat → List Qc → Dec} (he : s.size = e) (ha : a ≤ e) (hk : ∀ a' L', a' ≤ e → L'.length = L.length + times → (k a' L').bal e z) : (tgaNext s h M z times a L k).bal e z := by
  refine ⟨rfl, ha, ?_⟩
  split
  · cases hp : tgaPixel s h M a with
    | inl g => rw [tgaPixel_bad hp]; exact give_bal (by simp) ha
    | inr q => exact tgaPuts_bal (by omega) _ _ _ fun L' hL => hk _ _ (by omega) hL
  · exact give_bal (by decide) (by omega)
theorem tgaRaw_bal (he : s.size = e) : ∀ n a L {k : Nat → List Qc → Dec}, a ≤ e → (∀ a' L', a' ≤ e → L'.length = L.length + n → (k a' L').bal e z) → (tgaRaw s h M z n a L k).bal e z := by
  intro n
  induction n with
  | zero => intro a L k ha hk; exact hk _ _ ha rfl
  | succ n ih =>
    intro a L k ha hk
    refine tgaNext_bal he ha fun a' L' ha' hL' => ih _ _ ha' fun a2 L2 h2 hL2 => hk _ _ h2 ?_
    omega
theorem tgaPk_bal {N : Nat} (he : s.size = e) : ∀ f a L {k : List Qc → Dec}, a ≤ e → L.length ≤ N → N ≤ L.length + f → (∀ L', L'.length = N → (k L').bal e z) → (tgaPk s h M z N f a L k).bal e z := by
  intro f
  induction f with
  | zero => intro a L k ha hL hN hk; exact hk _ (by omega)
  | succ f ih =>
    intro a L k ha hL hN hk
    unfold tgaPk
    split
    · exact hk _ (by omega)
    · refine ⟨rfl, ha, ?_⟩
      split
      · split
        · exact give_bal (by decide) (by omega)
        · split
          · exact tgaNext_bal he (by omega) fun a' L' h1 h2 => ih _ _ h1 (by omega) (by omega) hk
          · exact tgaRaw_bal he _ _ _ (by omega) fun a' L' h1 h2 => ih _ _ h1 (by omega) (by omega) hk
      · exact give_bal (by decide) (by omega)
theorem tgaEnd_bal {m : Nat} {L : List Qc} (hz : z = 4 * (h.W * h.H) + m) : (tgaEnd h m L).bal e z := by
  refine ⟨by omega, by omega, ?_⟩
  rw [flat_len, tgaPerm_len]
theorem tgaPixels_bal {m a : Nat} (he : s.size = e) (ha : a ≤ e) (hz : z = 4 * (h.W * h.H) + m) : (tgaPixels s h M z m a).bal e z := by
  unfold tgaPixels
  split
  · exact tgaPk_bal he _ _ _ ha (Nat.zero_le _) (by simp) fun L' _ => tgaEnd_bal hz
  · exact tgaRaw_bal he _ _ _ ha fun a' L' _ _ => tgaEnd_bal hz
theorem tgaPal_bal (he : s.size = e) : ∀ n a M {k : Nat → List Qc → Dec}, a ≤ e → (∀ a' M', a' ≤ e → (k a' M').bal e z) → (tgaPal s h z n a M k).bal e z := by
  intro n
  induction n with
  | zero => intro a M k ha hk; exact hk _ _ ha
  | succ n ih =>
    intro a M k ha hk
    refine ⟨rfl, ha, ?_⟩
    split
    · exact ih _ _ (by omega) hk
    · exact give_bal (by decide) (by omega)
theorem tgaMap_bal {a : Nat} (he : s.size = e) (ha : a ≤ e) (hz : z = 4 * (h.W * h.H)) : (tgaMap s h z a).bal e z := by
  unfold tgaMap
  split
  · exact tgaPixels_bal he ha (by omega)
  · split
    · refine ⟨rfl, ha, ?_⟩
      split
      · exact tgaPixels_bal he (by omega) (by omega)
      · exact give_bal (by decide) (by omega)
    · refine ⟨rfl, ha, ?_⟩
      exact tgaPal_bal he _ _ _ ha fun a' M' h1 => tgaPixels_bal he h1 (by omega)
end
theorem tgaDec_bal (s : ByteArray) : (tgaDec s).bal s.size 0 := by
  refine ⟨rfl, Nat.zero_le _, ?_⟩
  by_cases h : s.size < 18
  · rw [if_pos h]; exact ⟨rfl, by decide, Nat.le_refl _⟩
  · rw [if_neg h]
    have hk := @tgaHead_some s
    generalize tgaHead s = o at hk ⊢
    cases o with
    | some f => obtain ⟨h1, h2, h3⟩ := hk rfl; exact ⟨rfl, h2, by omega⟩
    | none =>
      simp only
      refine ⟨rfl, by omega, rfl, by omega, ?_⟩
      rw [Nat.zero_add]
      refine ⟨rfl, by omega, ?_⟩
      split
      · exact tgaMap_bal rfl (by omega) rfl
      · exact give_bal (by decide) (Nat.le_refl _)
theorem tga_one : (1 : Int).toNat = 1 := rfl
section
variable {s : ByteArray} {h : TgaHd} {M : List Qc} {z : Nat}
theorem tgaPuts_cost {a c : Nat} : ∀ n L q {k : List Qc → Dec}, (∀ L', (k L').cost ≤ c) → (tgaPuts z a n L q k).cost ≤ n + c := by
  intro n
  induction n with
  | zero => intro L q k hk; have := hk L; unfold tgaPuts; omega
  | succ n ih =>
    intro L q k hk
    have := ih (L ++ [q]) q hk
    unfold tgaPuts Dec.cost
    rw [tga_one]
    omega
theorem tgaNext_cost {times a c : Nat} {L : List Qc} {k : Nat → List Qc → Dec} (hk : ∀ L', L'.length = L.length + times → (k (a + h.size) L').cost ≤ c) : (tgaNext s h M z times a L k).cost ≤ 1 + times + c := by
  unfold tgaNext Dec.cost
  rw [tga_one]
  split
  · cases tgaPixel s h M a with
    | inl g => simp only; unfold Dec.cost Dec.cost; omega
    | inr q =>
      simp only
      have key : ∀ n (L0 : List Qc), L0.length + n = L.length + times → (tgaPuts z (a + h.size) n L0 q (k (a + h.size))).cost ≤ n + c := by
        intro n
        induction n with
        | zero => intro L0 h0; have := hk L0 (by omega); unfold tgaPuts; omega
        | succ n ih =>
          intro L0 h0
          have := ih (L0 ++ [q]) (by rw [List.length_append, List.length_singleton]; omega)
          unfold tgaPuts Dec.cost
          rw [tga_one]
          omega
      have := key times L rfl
      omega
  · unfold Dec.cost Dec.cost; omega
theorem tgaRaw_cost {c : Nat} : ∀ n a L {k : Nat → List Qc → Dec}, (∀ a' L', L'.length = L.length + n → (k a' L').cost ≤ c) → (tgaRaw s h M z n a L k).cost ≤ 2 * n + c := by
  intro n
  induction n with
  | zero => intro a L k hk; have := hk a L rfl; unfold tgaRaw; omega
  | succ n ih =>
    intro a L k hk
    unfold tgaRaw
    have := tgaNext_cost (s := s) (h := h) (M := M) (z := z) (times := 1) (a := a) (c := 2 * n + c) (L := L) (k := fun a L => tgaRaw s h M z n a L k) fun L' hL => ih _ _ fun a2 L2 h2 => hk _ _ (by omega)
    omega
theorem tgaPk_cost {N c : Nat} : ∀ f a L {k : List Qc → Dec}, L.length ≤ N → (∀ L', (k L').cost ≤ c) → (tgaPk s h M z N f a L k).cost ≤ 3 * (N - L.length) + c := by
  intro f
  induction f with
  | zero => intro a L k hL hk; have := hk L; unfold tgaPk; omega
  | succ f ih =>
    intro a L k hL hk
    unfold tgaPk
    split
    · have := hk L; omega
    · unfold Dec.cost
      rw [tga_one]
      split
      · split
        · unfold Dec.cost Dec.cost; omega
        · split
          · have := tgaNext_cost (s := s) (h := h) (M := M) (z := z) (times := bat s a % 128 + 1) (a := a + 1) (c := 3 * (N - (L.length + (bat s a % 128 + 1))) + c) (L := L) (k := fun a L => tgaPk s h M z N f a L k) fun L' hL' => by
              have := ih (a + 1 + h.size) L' (k := k) (by omega) hk
              rw [hL'] at this
              exact this
            omega
          · have := tgaRaw_cost (s := s) (h := h) (M := M) (z := z) (c := 3 * (N - (L.length + (bat s a % 128 + 1))) + c) (bat s a % 128 + 1) (a + 1) L (k := fun a L => tgaPk s h M z N f a L k) fun a' L' hL' => by
              have := ih a' L' (k := k) (by omega) hk
              rw [hL'] at this
              exact this
            omega
      · unfold Dec.cost Dec.cost; omega
theorem tgaPixels_cost {m a : Nat} : (tgaPixels s h M z m a).cost ≤ 3 * (h.W * h.H) := by
  unfold tgaPixels
  split
  · have := tgaPk_cost (s := s) (h := h) (M := M) (z := z) (N := h.W * h.H) (c := 0) (h.W * h.H) a [] (k := tgaEnd h m) (Nat.zero_le _) fun L' => Nat.le_refl _
    simp only [List.length_nil] at this
    omega
  · have := tgaRaw_cost (s := s) (h := h) (M := M) (z := z) (c := 0) (h.W * h.H) a [] (k := fun _ L => tgaEnd h m L) fun a' L' _ => Nat.le_refl _
    omega
theorem tgaPal_cost {c : Nat} : ∀ n a M {k : Nat → List Qc → Dec}, (∀ a' M', (k a' M').cost ≤ c) → (tgaPal s h z n a M k).cost ≤ n + c := by
  intro n
  induction n with
  | zero => intro a M k hk; have := hk a M; unfold tgaPal; omega
  | succ n ih =>
    intro a M k hk
    unfold tgaPal Dec.cost
    rw [tga_one]
    split
    · have := ih (a + tgaEntry h.entry) (M ++ [ecol (tgaKind h.entry : Int) (s.data.toList.drop a)]) hk; omega
    · unfold Dec.cost Dec.cost; omega
theorem tgaMap_cost {a : Nat} : (tgaMap s h z a).cost ≤ 1 + h.count + 3 * (h.W * h.H) := by
  unfold tgaMap
  split
  · have := tgaPixels_cost (s := s) (h := h) (M := []) (z := z) (m := 0) (a := a); omega
  · split
    · unfold Dec.cost
      rw [tga_one]
      split
      · have := tgaPixels_cost (s := s) (h := h) (M := []) (z := z) (m := 0) (a := a + tgaEntry h.entry * h.count); omega
      · unfold Dec.cost Dec.cost; omega
    · unfold Dec.cost
      have := tgaPal_cost (s := s) (h := h) (z := z + 4 * h.count) (c := 3 * (h.W * h.H)) h.count a [] (k := fun a M => tgaPixels s h M (z + 4 * h.count) (4 * h.count) a) fun a' M' => tgaPixels_cost
      omega
end
end Go.Proofs.Ytccldalagbfmhaa
