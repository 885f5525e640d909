/- The document's pixels, in the order of its text; plain. The document's raster: New, Is. The document's raster: Flip. The document's raster: Set. -/
import Derived.Test.YtccldalagbfmhaaGreatKTgaTold
import Derived.Test.YtccldalagbfmhaaGreatKTgaQ
import Derived.Test.YtccldalagbfmhaaGreatKTgaE
import Derived.Test.YtccldalagbfmhaaGreatKCols
import Derived.Test.YtccldalagbfmhaaGreatKRas
namespace Go.Proofs.YtccldalagbfmhaaGreat
open Go.RowKit
set_option linter.unusedVariables false
set_option linter.unusedSimpArgs false

/-- one pixel, or what is wrong -/
def tgaPixE (s : ByteArray) (h : TgaHd) (M : List Qc) (a : Nat) : (Nat × Nat) ⊕ Qc := if a + h.size ≤ s.size then tgaPixel s h M a else .inl (1, s.size)
/-- so many pixels: each read anew, or one read again and again -/
def tgaInR (s : ByteArray) (h : TgaHd) (M : List Qc) (same : Bool) : Nat → Nat → List Qc → (Nat × Nat) ⊕ (Nat × List Qc)
  | 0, a, L => .inr (a, L)
  | n + 1, a, L => match tgaPixE s h M a with
    | .inl g => .inl g
    | .inr q => tgaInR s h M same n (if same = false ∨ n = 0 then a + h.size else a) (L ++ [q])
/-- a packet's head: how many, whether one, and from where -/
def tgaHdR (s : ByteArray) (h : TgaHd) (N a m : Nat) : (Nat × Nat) ⊕ (Nat × Bool × Nat) :=
  if TgaPacked h.typ then (if a + 1 ≤ s.size then (if N - m < bat s a % 128 + 1 then .inl (2, a) else .inr (bat s a % 128 + 1, decide (128 ≤ bat s a), a + 1)) else .inl (1, s.size)) else .inr (1, false, a)
def tgaDocR (s : ByteArray) (h : TgaHd) (M : List Qc) (N : Nat) : Nat → Nat → List Qc → (Nat × Nat) ⊕ (List Qc)
  | 0, a, L => .inr L
  | f + 1, a, L => if N ≤ L.length then .inr L else match tgaHdR s h N a L.length with
    | .inl g => .inl g
    | .inr (c, same, a1) => match tgaInR s h M same c a1 L with
      | .inl g => .inl g
      | .inr (a', L') => tgaDocR s h M N f a' L'
section
variable {s : ByteArray} {h : TgaHd} {M : List Qc}
theorem tgaIn_raw : ∀ n a L, tgaInR s h M false n a L = tgaRawR s h M n a L := by
  intro n
  induction n with
  | zero => intro a L; rfl
  | succ n ih =>
    intro a L
    unfold tgaInR tgaRawR tgaNextR tgaPixE
    by_cases h1 : a + h.size ≤ s.size
    · rw [if_pos h1, if_pos h1]
      cases tgaPixel s h M a with
      | inl g => rfl
      | inr q =>
        simp only [true_or, if_true]
        exact ih _ _
    · rw [if_neg h1, if_neg h1]
theorem tgaIn_same : ∀ n a L, tgaInR s h M true (n + 1) a L = tgaNextR s h M (n + 1) a L := by
  intro n
  induction n with
  | zero =>
    intro a L
    unfold tgaInR tgaNextR tgaPixE
    by_cases h1 : a + h.size ≤ s.size
    · rw [if_pos h1, if_pos h1]
      cases tgaPixel s h M a with
      | inl g => rfl
      | inr q => simp [tgaInR]
    · rw [if_neg h1, if_neg h1]
  | succ n ih =>
    intro a L
    unfold tgaInR
    rw [tgaPixE]
    unfold tgaNextR
    by_cases h1 : a + h.size ≤ s.size
    · rw [if_pos h1, if_pos h1]
      cases hq : tgaPixel s h M a with
      | inl g => rfl
      | inr q =>
        have e0 : (if true = false ∨ n + 1 = 0 then a + h.size else a) = a := if_neg (by simp)
        simp only [e0]
        rw [ih]
        unfold tgaNextR
        rw [if_pos h1, hq]
        simp only [List.append_assoc]
        rfl
    · rw [if_neg h1, if_neg h1]
theorem tgaDoc_pk {N : Nat} (hp : TgaPacked h.typ) : ∀ f a L, tgaDocR s h M N f a L = tgaPkR s h M N f a L := by
  intro f
  induction f with
  | zero => intro a L; rfl
  | succ f ih =>
    intro a L
    unfold tgaDocR tgaPkR tgaHdR
    by_cases h0 : N ≤ L.length
    · rw [if_pos h0, if_pos h0]
    · rw [if_neg h0, if_neg h0, if_pos hp]
      by_cases h1 : a + 1 ≤ s.size
      · rw [if_pos h1, if_pos h1]
        by_cases h2 : N - L.length < bat s a % 128 + 1
        · rw [if_pos h2, if_pos h2]
        · rw [if_neg h2, if_neg h2]
          by_cases h3 : 128 ≤ bat s a
          · rw [if_pos h3]
            simp only [decide_eq_true h3, tgaIn_same, ih]
            cases tgaNextR s h M (bat s a % 128 + 1) (a + 1) L <;> rfl
          · rw [if_neg h3]
            simp only [decide_eq_false h3, tgaIn_raw, ih]
            cases tgaRawR s h M (bat s a % 128 + 1) (a + 1) L <;> rfl
      · rw [if_neg h1, if_neg h1]
theorem tgaDoc_raw {N : Nat} (hp : ¬ TgaPacked h.typ) : ∀ f a L, L.length + f = N → tgaDocR s h M N f a L = match tgaRawR s h M f a L with | .inl g => .inl g | .inr (_, L') => .inr L' := by
  intro f
  induction f with
  | zero => intro a L _; rfl
  | succ f ih =>
    intro a L hN
    unfold tgaDocR tgaHdR
    rw [if_neg (by omega), if_neg hp]
    have e1 : tgaInR s h M false 1 a L = tgaNextR s h M 1 a L := by
      rw [tgaIn_raw]
      unfold tgaRawR
      cases tgaNextR s h M 1 a L <;> rfl
    simp only [e1]
    rw [tgaRawR]
    cases hx : tgaNextR s h M 1 a L with
    | inl g => rfl
    | inr p =>
      obtain ⟨a', L'⟩ := p
      refine ih a' L' ?_
      unfold tgaNextR at hx
      split at hx
      · split at hx
        · cases hx
        · cases hx
          rw [List.length_append]
          show L.length + (List.replicate 1 _).length + f = N
          rw [List.length_replicate]; omega
      · cases hx
end
/-- all pixels, as the document walks them -/
theorem tgaPixR_doc {s : ByteArray} {h : TgaHd} {M : List Qc} {a : Nat} : tgaPixR s h M a = match tgaDocR s h M (h.W * h.H) (h.W * h.H) a [] with | .inl g => .bad g.1 g.2 | .inr L => .img h.W h.H (flat (tgaPerm h L)) := by
  unfold tgaPixR
  by_cases hp : TgaPacked h.typ
  · rw [if_pos hp, tgaDoc_pk hp]
    cases tgaPkR s h M (h.W * h.H) (h.W * h.H) a [] <;> rfl
  · rw [if_neg hp, tgaDoc_raw hp _ _ _ (by simp)]
    cases tgaRawR s h M (h.W * h.H) a [] with
    | inl g => rfl
    | inr p => rfl
/-- the first of a perm -/
theorem tgaPerm_take {h : TgaHd} {L : List Qc} {k : Nat} {q : Qc} (hk : L[k]? = some q) : tgaPerm h (L.take (k + 1)) = (tgaPerm h (L.take k)).set (h.place k) q := by
  have hl : k < L.length := (List.getElem?_eq_some_iff.1 hk).1
  have e : L.take (k + 1) = L.take k ++ [q] := by
    rw [List.take_add_one, hk]; rfl
  have e2 : (L.take k).length = k := by rw [List.length_take]; omega
  have e3 := tgaPerm_next h (L.take k) q
  rw [e2] at e3
  rw [e, e3]
/-- a row of colours that is one's own, by what lies there -/
theorem OwnsQ.of_at {w : World} {base g cap : Nat} {L : List Qc} {cs : Array Value} (hb : base ≤ g) (hB : Blk w g 131 cs) (hs : cs.size = cap * 4) (hc : L.length ≤ cap) (hm : cap ≤ maxLen) (hq : QAt w g 0 L) : OwnsQ w base (.slice (some ⟨g, 0, none⟩) L.length cap) L := by
  refine ⟨cq_len L, .inr ⟨g, cap, cs, rfl, hb, hB, hc, hm, hs, ?_⟩⟩
  apply List.ext_getElem?
  intro j
  by_cases hj : j < L.length * 4
  · rw [List.getElem?_take_of_lt hj, Array.getElem?_toList, ← Blk.cell hB j]
    obtain ⟨qq, hqq⟩ : ∃ qq, L[j / 4]? = some qq := ⟨_, List.getElem?_eq_getElem (show j / 4 < L.length by omega)⟩
    have e := hq (j / 4) _ hqq
    have ej : j / 4 * 4 + j % 4 = j := by omega
    have hcc := cq_at L (j / 4) (j % 4) _ hqq (by omega)
    rw [ej] at hcc
    rw [Nat.zero_add] at e
    have h4 : j % 4 < 4 := by omega
    generalize j % 4 = r at h4 ej hcc
    rw [hcc, ← ej]
    match r, h4 with
    | 0, _ => exact e.1
    | 1, _ => exact e.2.1
    | 2, _ => exact e.2.2.1
    | 3, _ => exact e.2.2.2
  · rw [List.getElem?_eq_none (by rw [List.length_take]; omega), List.getElem?_eq_none (by rw [cq_len]; omega)]
/-- a pixel, in one form -/
theorem refTgaPixE {w : World} {s : ByteArray} {h : TgaHd} {M : List Qc} {a : Nat} {v : Value} (hh : h.Ok) (RM : RowM w v M) (hM : M.length ≤ 65535) (hs : s.size ≤ 100000) (ha : a ≤ s.size) :
    Calls Tryz.prog 110 #[.string s, .int .i64 (a : Int), tRV h, v] w fun e w' => Below w.heap.size w w' ∧ ∃ (q : Qc) (k i : Nat), e = .returned (.tuple #[q.v, .int .i64 (k : Int), .int .i64 (i : Int)]) ∧ ((k ≠ 0 ∧ tgaPixE s h M a = .inl (k, i)) ∨ (k = 0 ∧ a + h.size ≤ s.size ∧ tgaPixE s h M a = .inr q)) := by
  refine (refTgaPixelC hh RM hM hs ha).mono ?_
  rintro e w' ⟨b, h1 | h1 | h1⟩
  · obtain ⟨h2, rfl⟩ := h1
    exact ⟨b, ⟨0, 0, 0, 0⟩, 1, s.size, rfl, .inl ⟨by decide, by unfold tgaPixE; rw [if_neg (by omega)]⟩⟩
  · obtain ⟨h2, h3, rfl⟩ := h1
    exact ⟨b, ⟨0, 0, 0, 0⟩, 2, a, rfl, .inl ⟨by decide, by unfold tgaPixE; rw [if_pos h2, h3]⟩⟩
  · obtain ⟨h2, q, h3, rfl⟩ := h1
    exact ⟨b, q, 0, 0, rfl, .inr ⟨rfl, h2, by unfold tgaPixE; rw [if_pos h2, h3]⟩⟩
end Go.Proofs.YtccldalagbfmhaaGreat
namespace Go.Proofs.YtccldalagbfmhaaGreat
open Go.RowKit
set_option linter.unusedVariables false
set_option linter.unusedSimpArgs false

def refC (W H : Int) (q n c : Nat) (o : Bool) : Array Value := #[.int .i64 W, .int .i64 H, .slice (some ⟨q, 0, none⟩) n c, .bool o]
section
variable {w : World} {k q n c : Nat} {W H : Int} {o : Bool}
end
theorem QAt.below' {w w' : World} {b off : Nat} {C : List Qc} (h : QAt w b off C) (hb : Below w.heap.size w w') : QAt w' b off C := fun i q hi => by
  obtain ⟨h0, h1, h2, h3⟩ := h i q hi
  have hl := World.block_lt_of_cell? w _ h0
  exact ⟨(hb.cell (p := ⟨b, off + i * 4, none⟩) hl).trans h0, (hb.cell (p := ⟨b, off + i * 4 + 1, none⟩) hl).trans h1, (hb.cell (p := ⟨b, off + i * 4 + 2, none⟩) hl).trans h2, (hb.cell (p := ⟨b, off + i * 4 + 3, none⟩) hl).trans h3⟩
def q0 : Qc := ⟨0, 0, 0, 0⟩
theorem made_q (n : Nat) (i j : Nat) (hi : i < n) (hj : j < 4) : (madeCells #[.int .u8 0, .int .u8 0, .int .u8 0, .int .u8 0] (n * 4))[i * 4 + j]? = some (.int .u8 0) := by
  unfold madeCells
  rw [Array.getElem?_map, Array.getElem?_range]
  have h : i * 4 + j < n * 4 := by omega
  simp only [h, if_pos, Option.map_some]
  have hm : (i * 4 + j) % 4 = j := by omega
  simp only [List.size_toArray, List.length_cons, List.length_nil, Nat.zero_add, Nat.reduceAdd, hm]
  match j, hj with
  | 0, _ => rfl
  | 1, _ => rfl
  | 2, _ => rfl
  | 3, _ => rfl
theorem q_made (w : World) (n : Nat) : QAt (w.alloc (.cells (madeCells #[.int .u8 0, .int .u8 0, .int .u8 0, .int .u8 0] (n * 4)) 131)) w.heap.size 0 (List.replicate n q0) := fun i q hi => by
  have hin : i < n := by have := (List.getElem?_eq_some_iff.1 hi).1; simpa using this
  have hq : q = q0 := by rw [List.getElem?_replicate, if_pos hin] at hi; exact (Option.some.inj hi).symm
  subst hq
  rw [Nat.zero_add]
  exact ⟨(cell_new _ _ _ _ _ rfl).trans (made_q n i 0 hin (by omega)), (cell_new _ _ _ _ _ rfl).trans (made_q n i 1 hin (by omega)), (cell_new _ _ _ _ _ rfl).trans (made_q n i 2 hin (by omega)), (cell_new _ _ _ _ _ rfl).trans (made_q n i 3 hin (by omega))⟩
theorem prod3_in {m s p : Nat} (h : m * s = p) (hp : p ≤ 4294967296) : IntKind.i64.wrap ((m : Int) * (s : Int)) = (p : Int) := by
  have e : (m : Int) * (s : Int) = (p : Int) := by rw [← h]; exact (Int.natCast_mul m s).symm
  rw [e]
  exact IntWalk.i64_in _ (by omega)
end Go.Proofs.YtccldalagbfmhaaGreat
namespace Go.Proofs.YtccldalagbfmhaaGreat
open Go.RowKit
set_option linter.unusedVariables false
set_option linter.unusedSimpArgs false

end Go.Proofs.YtccldalagbfmhaaGreat
namespace Go.Proofs.YtccldalagbfmhaaGreat
open Go.RowKit
set_option linter.unusedVariables false
set_option linter.unusedSimpArgs false

theorem QAt.set {w : World} {g i : Nat} {cs : Array Value} {L : List Qc} {q : Qc} (hb : Blk w g 131 cs) (h : QAt w g 0 L) (hi : i < L.length) (hsz : i * 4 + 4 ≤ cs.size) :
    QAt ((((w.setCell ⟨g, i * 4, none⟩ (.int .u8 (q.r.toNat : Int))).setCell ⟨g, i * 4 + 1, none⟩ (.int .u8 (q.g.toNat : Int))).setCell ⟨g, i * 4 + 2, none⟩ (.int .u8 (q.b.toNat : Int))).setCell ⟨g, i * 4 + 3, none⟩ (.int .u8 (q.a.toNat : Int))) g 0 (L.set i q) := by
  have hb4 := (((hb.set_ (i * 4) (.int .u8 (q.r.toNat : Int))).set_ (i * 4 + 1) (.int .u8 (q.g.toNat : Int))).set_ (i * 4 + 2) (.int .u8 (q.b.toNat : Int))).set_ (i * 4 + 3) (.int .u8 (q.a.toNat : Int))
  intro j q' hj
  have hjl : j < L.length := by have := (List.getElem?_eq_some_iff.1 hj).1; simpa using this
  rw [Nat.zero_add]
  by_cases hji : j = i
  · subst hji
    have hq : q' = q := by
      rw [List.getElem?_set_self hjl] at hj
      exact (Option.some.inj hj).symm
    subst hq
    refine ⟨(Blk.cell hb4 _).trans ?_, (Blk.cell hb4 _).trans ?_, (Blk.cell hb4 _).trans ?_, (Blk.cell hb4 _).trans ?_⟩
    · rw [Array.getElem?_setIfInBounds_ne (by omega), Array.getElem?_setIfInBounds_ne (by omega), Array.getElem?_setIfInBounds_ne (by omega), Array.getElem?_setIfInBounds_self_of_lt (by omega)]
    · rw [Array.getElem?_setIfInBounds_ne (by omega), Array.getElem?_setIfInBounds_ne (by omega), Array.getElem?_setIfInBounds_self_of_lt (by rw [Array.size_setIfInBounds]; omega)]
    · rw [Array.getElem?_setIfInBounds_ne (by omega), Array.getElem?_setIfInBounds_self_of_lt (by simp only [Array.size_setIfInBounds]; omega)]
    · rw [Array.getElem?_setIfInBounds_self_of_lt (by simp only [Array.size_setIfInBounds]; omega)]
  · rw [List.getElem?_set_ne (Ne.symm hji)] at hj
    have hh := h j q' hj
    rw [Nat.zero_add] at hh
    have key : ∀ k, k < 4 → (((((cs.setIfInBounds (i * 4) (.int .u8 (q.r.toNat : Int))).setIfInBounds (i * 4 + 1) (.int .u8 (q.g.toNat : Int))).setIfInBounds (i * 4 + 2) (.int .u8 (q.b.toNat : Int))).setIfInBounds (i * 4 + 3) (.int .u8 (q.a.toNat : Int))))[j * 4 + k]? = cs[j * 4 + k]? := fun k hk => by
      rw [Array.getElem?_setIfInBounds_ne (by omega), Array.getElem?_setIfInBounds_ne (by omega), Array.getElem?_setIfInBounds_ne (by omega), Array.getElem?_setIfInBounds_ne (by omega)]
    refine ⟨(Blk.cell hb4 _).trans ((key 0 (by omega)).trans ((Blk.cell hb _).symm.trans hh.1)), (Blk.cell hb4 _).trans ((key 1 (by omega)).trans ((Blk.cell hb _).symm.trans hh.2.1)), (Blk.cell hb4 _).trans ((key 2 (by omega)).trans ((Blk.cell hb _).symm.trans hh.2.2.1)), (Blk.cell hb4 _).trans ((key 3 (by omega)).trans ((Blk.cell hb _).symm.trans hh.2.2.2))⟩
/-- the block of an owned row -/
theorem OwnsQ.blk {w : World} {base g n c : Nat} {L : List Qc} (h : OwnsQ w base (.slice (some ⟨g, 0, none⟩) n c) L) : base ≤ g ∧ n = L.length ∧ ∃ cs, Blk w g 131 cs ∧ L.length * 4 ≤ cs.size := by
  rcases h.2 with ⟨e, _⟩ | ⟨g', cap, cur, e, hb, hg, hc, hm, hs, ht⟩
  · cases e
  · simp only [Value.slice.injEq, Option.some.injEq, Addr.mk.injEq] at e
    obtain ⟨⟨rfl, _⟩, rfl, rfl⟩ := e
    exact ⟨hb, rfl, cur, hg, by rw [hs]; exact Nat.mul_le_mul hc (Nat.le_refl 4)⟩
theorem OwnsQ.some_ {w : World} {base n : Nat} {v : Value} {L M : List Qc} (h : OwnsQ w base v L) (hM : L = M) (hn : n = M.length) (hp : 0 < n) : ∃ g c, v = .slice (some ⟨g, 0, none⟩) n c ∧ OwnsQ w base (.slice (some ⟨g, 0, none⟩) n c) M := by
  subst hM
  subst hn
  rcases h.form with ⟨_, rfl⟩ | ⟨g, c, rfl, _⟩
  · simp at hp
  · exact ⟨g, c, rfl, h⟩
theorem QAt.far {w : World} {g k i : Nat} {u : Value} {L : List Qc} (h : QAt w g 0 L) (hk : g ≠ k) : QAt (w.setCell ⟨k, i, none⟩ u) g 0 L := fun j q hj => by
  obtain ⟨h0, h1, h2, h3⟩ := h j q hj
  have e : ∀ o, (w.setCell ⟨k, i, none⟩ u).cell? ⟨g, o, none⟩ = w.cell? ⟨g, o, none⟩ := fun o => World.cell?_of_block (Below.heap_setCell w ⟨k, i, none⟩ u g hk)
  exact ⟨(e _).trans h0, (e _).trans h1, (e _).trans h2, (e _).trans h3⟩
end Go.Proofs.YtccldalagbfmhaaGreat
