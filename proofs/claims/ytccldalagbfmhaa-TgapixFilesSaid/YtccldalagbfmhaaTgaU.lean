/- The document's pixels, in the order of its text; plain. -/
import Derived.Test.YtccldalagbfmhaaTgaTold
import Derived.Test.YtccldalagbfmhaaTgaQ
import Derived.Test.YtccldalagbfmhaaTgaE
namespace Go.Proofs.Ytccldalagbfmhaa
open Go.RowKit
set_option linter.unusedVariables false
set_option linter.unusedSimpArgs false

/-- one pixel, or what is wrong -/
def tgaPixE (s : ByteArray) (h : TgaHd) (M : List Qc) (a : Nat) : (Nat × Nat) ⊕ Qc := if a + h.size ≤ s.size then tgaPixel s h M a else .inl (1, s.size)
/-- so many pixels: each read anew, or one read again and again -/
def tgaInR (s : ByteArray) (h : TgaHd) (M : List Qc) (same : Bool) : Nat → Nat → List Qc → (Nat × Nat) ⊕ (Nat × List Qc)
  | 0, a, L => .inr (a, L)
  | n + 1, a, L => match tgaPixE s h M a with
    | .inl g => .inl g
    | .inr q => tgaInR s h M same n (if same = false ∨ n = 0 then a + h.size else a) (L ++ [q])
/-- a packet's head: how many, whether one, and from where -/
def tgaHdR (s : ByteArray) (h : TgaHd) (N a m : Nat) : (Nat × Nat) ⊕ (Nat × Bool × Nat) :=
  if TgaPacked h.typ then (if a + 1 ≤ s.size then (if N - m < bat s a % 128 + 1 then .inl (2, a) else .inr (bat s a % 128 + 1, decide (128 ≤ bat s a), a + 1)) else .inl (1, s.size)) else .inr (1, false, a)
def tgaDocR (s : ByteArray) (h : TgaHd) (M : List Qc) (N : Nat) : Nat → Nat → List Qc → (Nat × Nat) ⊕ (List Qc)
  | 0, a, L => .inr L
  | f + 1, a, L => if N ≤ L.length then .inr L else match tgaHdR s h N a L.length with
    | .inl g => .inl g
    | .inr (c, same, a1) => match tgaInR s h M same c a1 L with
      | .inl g => .inl g
      | .inr (a', L') => tgaDocR s h M N f a' L'
section
variable {s : ByteArray} {h : TgaHd} {M : List Qc}
theorem tgaIn_raw : ∀ n a L, tgaInR s h M false n a L = tgaRawR s h M n a L := by
  intro n
  induction n with
  | zero => intro a L; rfl
  | succ n ih =>
    intro a L
    unfold tgaInR tgaRawR tgaNextR tgaPixE
    by_cases h1 : a + h.size ≤ s.size
    · rw [if_pos h1, if_pos h1]
      cases tgaPixel s h M a with
      | inl g => rfl
      | inr q =>
        simp only [true_or, if_true]
        exact ih _ _
    · rw [if_neg h1, if_neg h1]
theorem tgaIn_same : ∀ n a L, tgaInR s h M true (n + 1) a L = tgaNextR s h M (n + 1) a L := by
  intro n
  induction n with
  | zero =>
    intro a L
    unfold tgaInR tgaNextR tgaPixE
    by_cases h1 : a + h.size ≤ s.size
    · rw [if_pos h1, if_pos h1]
      cases tgaPixel s h M a with
      | inl g => rfl
      | inr q => simp [tgaInR]
    · rw [if_neg h1, if_neg h1]
  | succ n ih =>
    intro a L
    unfold tgaInR
    rw [tgaPixE]
    unfold tgaNextR
    by_cases h1 : a + h.size ≤ s.size
    · rw [if_pos h1, if_pos h1]
      cases hq : tgaPixel s h M a with
      | inl g => rfl
      | inr q =>
        have e0 : (if true = false ∨ n + 1 = 0 then a + h.size else a) = a := if_neg (by simp)
        simp only [e0]
        rw [ih]
        unfold tgaNextR
        rw [if_pos h1, hq]
        simp only [List.append_assoc]
        rfl
    · rw [if_neg h1, if_neg h1]
theorem tgaDoc_pk {N : Nat} (hp : TgaPacked h.typ) : ∀ f a L, tgaDocR s h M N f a L = tgaPkR s h M N f a L := by
  intro f
  induction f with
  | zero => intro a L; rfl
  | succ f ih =>
    intro a L
    unfold tgaDocR tgaPkR tgaHdR
    by_cases h0 : N ≤ L.length
    · rw [if_pos h0, if_pos h0]
    · rw [if_neg h0, if_neg h0, if_pos hp]
      by_cases h1 : a + 1 ≤ s.size
      · rw [if_pos h1, if_pos h1]
        by_cases h2 : N - L.length < bat s a % 128 + 1
        · rw [if_pos h2, if_pos h2]
        · rw [if_neg h2, if_neg h2]
          by_cases h3 : 128 ≤ bat s a
          · rw [if_pos h3]
            simp only [decide_eq_true h3, tgaIn_same, ih]
            cases tgaNextR s h M (bat s a % 128 + 1) (a + 1) L <;> rfl
          · rw [if_neg h3]
            simp only [decide_eq_false h3, tgaIn_raw, ih]
            cases tgaRawR s h M (bat s a % 128 + 1) (a + 1) L <;> rfl
      · rw [if_neg h1, if_neg h1]
theorem tgaDoc_raw {N : Nat} (hp : ¬ TgaPacked h.typ) : ∀ f a L, L.length + f = N → tgaDocR s h M N f a L = match tgaRawR s h M f a L with | .inl g => .inl g | .inr (_, L') => .inr L' := by
  intro f
  induction f with
  | zero => intro a L _; rfl
  | succ f ih =>
    intro a L hN
    unfold tgaDocR tgaHdR
    rw [if_neg (by omega), if_neg hp]
    have e1 : tgaInR s h M false 1 a L = tgaNextR s h M 1 a L := by
      rw [tgaIn_raw]
      unfold tgaRawR
      cases tgaNextR s h M 1 a L <;> rfl
    simp only [e1]
    rw [tgaRawR]
    cases hx : tgaNextR s h M 1 a L with
    | inl g => rfl
    | inr p =>
      obtain ⟨a', L'⟩ := p
      refine ih a' L' ?_
      unfold tgaNextR at hx
      split at hx
      · split at hx
        · cases hx
        · cases hx
          rw [List.length_append]
          show L.length + (List.replicate 1 _).length + f = N
          rw [List.length_replicate]; omega
      · cases hx
end
/-- all pixels, as the document walks them -/
theorem tgaPixR_doc {s : ByteArray} {h : TgaHd} {M : List Qc} {a : Nat} : tgaPixR s h M a = match tgaDocR s h M (h.W * h.H) (h.W * h.H) a [] with | .inl g => .bad g.1 g.2 | .inr L => .img h.W h.H (flat (tgaPerm h L)) := by
  unfold tgaPixR
  by_cases hp : TgaPacked h.typ
  · rw [if_pos hp, tgaDoc_pk hp]
    cases tgaPkR s h M (h.W * h.H) (h.W * h.H) a [] <;> rfl
  · rw [if_neg hp, tgaDoc_raw hp _ _ _ (by simp)]
    cases tgaRawR s h M (h.W * h.H) a [] with
    | inl g => rfl
    | inr p => rfl
/-- the first of a perm -/
theorem tgaPerm_take {h : TgaHd} {L : List Qc} {k : Nat} {q : Qc} (hk : L[k]? = some q) : tgaPerm h (L.take (k + 1)) = (tgaPerm h (L.take k)).set (h.place k) q := by
  have hl : k < L.length := (List.getElem?_eq_some_iff.1 hk).1
  have e : L.take (k + 1) = L.take k ++ [q] := by
    rw [List.take_add_one, hk]; rfl
  have e2 : (L.take k).length = k := by rw [List.length_take]; omega
  have e3 := tgaPerm_next h (L.take k) q
  rw [e2] at e3
  rw [e, e3]
/-- a row of colours that is one's own, by what lies there -/
theorem OwnsQ.of_at {w : World} {base g cap : Nat} {L : List Qc} {cs : Array Value} (hb : base ≤ g) (hB : Blk w g 49 cs) (hs : cs.size = cap * 4) (hc : L.length ≤ cap) (hm : cap ≤ maxLen) (hq : QAt w g 0 L) : OwnsQ w base (.slice (some ⟨g, 0, none⟩) L.length cap) L := by
  refine ⟨cq_len L, .inr ⟨g, cap, cs, rfl, hb, hB, hc, hm, hs, ?_⟩⟩
  apply List.ext_getElem?
  intro j
  by_cases hj : j < L.length * 4
  · rw [List.getElem?_take_of_lt hj, Array.getElem?_toList, ← Blk.cell hB j]
    obtain ⟨qq, hqq⟩ : ∃ qq, L[j / 4]? = some qq := ⟨_, List.getElem?_eq_getElem (show j / 4 < L.length by omega)⟩
    have e := hq (j / 4) _ hqq
    have ej : j / 4 * 4 + j % 4 = j := by omega
    have hcc := cq_at L (j / 4) (j % 4) _ hqq (by omega)
    rw [ej] at hcc
    rw [Nat.zero_add] at e
    have h4 : j % 4 < 4 := by omega
    generalize j % 4 = r at h4 ej hcc
    rw [hcc, ← ej]
    match r, h4 with
    | 0, _ => exact e.1
    | 1, _ => exact e.2.1
    | 2, _ => exact e.2.2.1
    | 3, _ => exact e.2.2.2
  · rw [List.getElem?_eq_none (by rw [List.length_take]; omega), List.getElem?_eq_none (by rw [cq_len]; omega)]
/-- a pixel, in one form -/
theorem refTgaPixE {w : World} {s : ByteArray} {h : TgaHd} {M : List Qc} {a : Nat} {v : Value} (hh : h.Ok) (RM : RowM w v M) (hM : M.length ≤ 65535) (hs : s.size ≤ 100000) (ha : a ≤ s.size) :
    Calls Try.prog 14 #[.string s, .int .i64 (a : Int), tRV h, v] w fun e w' => Below w.heap.size w w' ∧ ∃ (q : Qc) (k i : Nat), e = .returned (.tuple #[q.v, .int .i64 (k : Int), .int .i64 (i : Int)]) ∧ ((k ≠ 0 ∧ tgaPixE s h M a = .inl (k, i)) ∨ (k = 0 ∧ a + h.size ≤ s.size ∧ tgaPixE s h M a = .inr q)) := by
  refine (refTgaPixelC hh RM hM hs ha).mono ?_
  rintro e w' ⟨b, h1 | h1 | h1⟩
  · obtain ⟨h2, rfl⟩ := h1
    exact ⟨b, ⟨0, 0, 0, 0⟩, 1, s.size, rfl, .inl ⟨by decide, by unfold tgaPixE; rw [if_neg (by omega)]⟩⟩
  · obtain ⟨h2, h3, rfl⟩ := h1
    exact ⟨b, ⟨0, 0, 0, 0⟩, 2, a, rfl, .inl ⟨by decide, by unfold tgaPixE; rw [if_pos h2, h3]⟩⟩
  · obtain ⟨h2, q, h3, rfl⟩ := h1
    exact ⟨b, q, 0, 0, rfl, .inr ⟨rfl, h2, by unfold tgaPixE; rw [if_pos h2, h3]⟩⟩
end Go.Proofs.Ytccldalagbfmhaa
