/- Buffers that were made, one behind the other; which are gone. -/
import Derived.Test.YtncdchaecbndlaaBuf
import Derived.Test.YtncdchaecbndlaaAppendOne
import Derived.Test.YtncdchaecbndlaaOpenInts
namespace Go.Proofs.Ytncdchaecbndlaa
open Go.RowKit
set_option linter.unusedVariables false

def LM (n p : Int) : Led := ⟨0, 0, 10000, 0, n, p, 0, 0, 0⟩
theorem LM.ok {n p : Int} (h0 : 0 ≤ n) (h1 : n ≤ p) (h2 : p ≤ 10000) : (LM n p).Ok := by constructor <;> simp only [LM] <;> omega
theorem lm0 : Led.new 0 0 10000 0 = LM 0 0 := rfl
theorem lm_take {k n : Int} (h0 : 0 ≤ n) (hk : 0 ≤ k) (h : k + n ≤ 10000) : (LM k k).take n = (LM (k + n) (k + n), true) := by
  unfold Led.take LM
  rw [if_neg (by simp), if_neg (by simp only; omega)]
  simp only [Prod.mk.injEq, Led.mk.injEq, and_true, true_and]
  split <;> omega
theorem lm_give {k p n : Int} (h0 : 0 ≤ n) (h : n ≤ k) : (LM k p).give n = (LM (k - n) p, true) := by
  unfold Led.give LM
  rw [if_neg (by simp only; omega)]
theorem lm_bytes {k p : Int} : (LM k p).bytes = k := rfl

/-- the bytes that are kept: of those that are not gone -/
def keptN (Z : Nat → Nat) (gn : Nat → Bool) : Nat → Nat
  | 0 => 0
  | k + 1 => keptN Z gn k + if gn k then 0 else Z k
def updB (gn : Nat → Bool) (i : Nat) : Nat → Bool := fun j => if j = i then true else gn j
theorem keptN_none (Z : Nat → Nat) (n : Nat) (hz : ∀ j, j < n → Z j ≤ 255) : keptN Z (fun _ => false) n ≤ 255 * n := by
  induction n with
  | zero => simp [keptN]
  | succ n ih =>
    have := ih fun j hj => hz j (by omega)
    have := hz n (by omega)
    simp only [keptN, Bool.false_eq_true, if_false]
    omega
theorem keptN_far (Z : Nat → Nat) (gn : Nat → Bool) (i n : Nat) (h : n ≤ i) : keptN Z (updB gn i) n = keptN Z gn n := by
  induction n with
  | zero => rfl
  | succ n ih =>
    simp only [keptN]
    rw [ih (by omega)]
    simp [updB, show n ≠ i by omega]
theorem keptN_gone (Z : Nat → Nat) (gn : Nat → Bool) (i n : Nat) (h : i < n) (hg : gn i = false) : keptN Z gn n = keptN Z (updB gn i) n + Z i := by
  induction n with
  | zero => omega
  | succ n ih =>
    simp only [keptN]
    by_cases e : i = n
    · subst e
      rw [keptN_far Z gn i i (Nat.le_refl _)]
      simp [updB, hg]
    · rw [ih (by omega)]
      simp [updB, show n ≠ i by omega]
      omega
theorem updB_same (gn : Nat → Bool) (i : Nat) (h : gn i = true) : updB gn i = gn := by
  funext j
  unfold updB
  split
  · rename_i e; subst e; exact h.symm
  · rfl

/-- the made buffers: their blocks, their bytes' blocks -/
def Made (w : World) (g B : Nat) (Z : Nat → Nat) (gn : Nat → Bool) (L : List (Nat × Nat)) : Prop :=
  (∀ (j b d : Nat), L[j]? = some (b, d) → B ≤ b ∧ B ≤ d ∧ if gn j then BufOff w b g else BufAt w b g d (List.replicate (Z j) 0)) ∧
  ∀ (i j b d b' d' : Nat), L[i]? = some (b, d) → L[j]? = some (b', d') → i ≠ j → b ≠ b'
def ptrs (L : List (Nat × Nat)) : List Value := L.map fun p => .pointer (some ⟨p.1, 0, none⟩)
theorem ptrs_len (L : List (Nat × Nat)) : (ptrs L).length = L.length := by simp [ptrs]
theorem Made.blk {w : World} {g B : Nat} {Z : Nat → Nat} {gn : Nat → Bool} {L : List (Nat × Nat)} (h : Made w g B Z gn L) {j b d : Nat} (hj : L[j]? = some (b, d)) : ∃ cs, Blk w b 111 cs := by
  obtain ⟨_, _, h3⟩ := h.1 j b d hj
  split at h3
  · exact ⟨_, h3⟩
  · exact ⟨_, h3.blk⟩
theorem Made.step {w w' : World} {g B : Nat} {Z : Nat → Nat} {gn : Nat → Bool} {L : List (Nat × Nat)} {S : List Nat} (h : Made w g B Z gn L) (k : Turn S w w') (hS : ∀ i ∈ S, ∃ t cs, Blk w i t cs ∧ t ≠ 111 ∧ t ≠ 5) : Made w' g B Z gn L := by
  refine ⟨fun j b d hj => ?_, h.2⟩
  obtain ⟨h1, h2, h3⟩ := h.1 j b d hj
  refine ⟨h1, h2, ?_⟩
  split at h3
  · rename_i e
    rw [if_pos e]
    exact Blk.turn h3 k (fun hm => by obtain ⟨t, cs, hb, n1, _⟩ := hS b hm; exact Blk.ne_ hb h3 n1 rfl)
  · rename_i e
    rw [if_neg e]
    exact h3.turn k (fun hm => by obtain ⟨t, cs, hb, n1, _⟩ := hS b hm; exact Blk.ne_ hb h3.blk n1 rfl) (fun hm => by obtain ⟨t, cs, hb, _, n2⟩ := hS d hm; exact Blk.ne_ hb h3.row n2 rfl)
theorem Made.below {w w' : World} {g B C : Nat} {Z : Nat → Nat} {gn : Nat → Bool} {L : List (Nat × Nat)} (h : Made w g B Z gn L) (k : Below C w w') (hC : w.heap.size ≤ C) : Made w' g B Z gn L :=
  h.step (S := []) (Turn.of_below ⟨k.os, k.tape, k.output, k.size, fun i hi => k.block i (by omega)⟩) (by simp)
/-- one more -/
theorem Made.add {w : World} {g B n b d : Nat} {Z : Nat → Nat} {L : List (Nat × Nat)} (h : Made w g B Z (fun _ => false) L) (hn : L.length = n) (hb : B ≤ b) (hd : B ≤ d) (k : BufAt w b g d (List.replicate (Z n) 0)) (hnew : ∀ (j b' d' : Nat), L[j]? = some (b', d') → b' ≠ b) : Made w g B Z (fun _ => false) (L ++ [(b, d)]) := by
  subst hn
  refine ⟨fun j b' d' hj => ?_, fun i j b1 d1 b2 d2 hi hj hne => ?_⟩
  · rw [List.getElem?_append] at hj
    split at hj
    · exact h.1 j b' d' hj
    · rename_i hlt
      obtain ⟨e, _⟩ := List.getElem?_eq_some_iff.1 hj
      have e0 : j - L.length = 0 := by simp at e; omega
      rw [e0] at hj
      simp at hj
      obtain ⟨rfl, rfl⟩ := hj
      have : j = L.length := by omega
      subst this
      exact ⟨hb, hd, k⟩
  · rw [List.getElem?_append] at hi hj
    split at hi <;> split at hj
    · exact h.2 i j b1 d1 b2 d2 hi hj hne
    · obtain ⟨e, _⟩ := List.getElem?_eq_some_iff.1 hj
      have e0 : j - L.length = 0 := by simp at e; omega
      rw [e0] at hj
      simp at hj
      rw [← hj.1]
      exact hnew i b1 d1 hi
    · obtain ⟨e, _⟩ := List.getElem?_eq_some_iff.1 hi
      have e0 : i - L.length = 0 := by simp at e; omega
      rw [e0] at hi
      simp at hi
      rw [← hi.1]
      exact (hnew j b2 d2 hj).symm
    · obtain ⟨e, _⟩ := List.getElem?_eq_some_iff.1 hi
      obtain ⟨e', _⟩ := List.getElem?_eq_some_iff.1 hj
      simp at e e'
      omega
/-- one is freed -/
theorem Made.free {w w' : World} {g B i b d : Nat} {Z : Nat → Nat} {gn : Nat → Bool} {L : List (Nat × Nat)} {x : Led} (h : Made w g B Z gn L) (hi : L[i]? = some (b, d)) (kl : LedAt w g x) (k : Turn [b, g] w w') (ko : BufOff w' b g) : Made w' g B Z (updB gn i) L := by
  refine ⟨fun j b' d' hj => ?_, h.2⟩
  obtain ⟨h1, h2, h3⟩ := h.1 j b' d' hj
  refine ⟨h1, h2, ?_⟩
  by_cases e : j = i
  · subst e
    rw [hi] at hj
    obtain ⟨rfl, rfl⟩ : b = b' ∧ d = d' := by simpa using hj
    rw [show updB gn j j = true by simp [updB]]
    exact ko
  · rw [show updB gn i j = gn j by simp [updB, e]]
    have hbb := h.2 j i b' d' b d hj hi e
    obtain ⟨csb, hbb'⟩ := h.blk hi
    split at h3
    · rename_i e'
      rw [if_pos e']
      exact Blk.turn h3 k (by simp only [List.mem_cons, List.not_mem_nil, or_false, not_or]; exact ⟨hbb, h3.bg kl⟩)
    · rename_i e'
      rw [if_neg e']
      refine h3.turn k (by simp only [List.mem_cons, List.not_mem_nil, or_false, not_or]; exact ⟨hbb, h3.bg kl⟩) (by simp only [List.mem_cons, List.not_mem_nil, or_false, not_or]; exact ⟨fun e => Blk.ne_ hbb' h3.row (by decide) e.symm, h3.dg kl⟩)

def goneC (n : Nat) (gn : Nat → Bool) : Array Value := ((List.range n).map fun j => Value.bool (gn j)).toArray
theorem goneC_at {n i : Nat} {gn : Nat → Bool} (h : i < n) : (goneC n gn)[i]? = some (.bool (gn i)) := by simp [goneC, h]
theorem goneC_zero (n : Nat) : madeCells #[.bool false] n = goneC n (fun _ => false) := by
  apply Array.ext'
  simp only [madeCells, goneC, Array.toList_map, Array.toList_range]
  apply List.ext_getElem (by simp)
  intro i h1 h2
  simp [Nat.mod_one]
theorem goneC_upd {n i : Nat} {gn : Nat → Bool} (h : i < n) : (goneC n gn).setIfInBounds i (.bool true) = goneC n (updB gn i) := by
  apply Array.ext (by simp [goneC])
  intro j h1 h2
  have hj : j < n := by simpa [goneC] using h2
  have e1 := goneC_at (gn := updB gn i) hj
  rw [Array.getElem?_eq_getElem h2] at e1
  have e2 : ((goneC n gn).setIfInBounds i (.bool true))[j]? = some (.bool (updB gn i j)) := by
    rw [Array.getElem?_setIfInBounds]
    by_cases e : i = j
    · subst e
      rw [if_pos rfl, if_pos (by simp [goneC, h])]
      simp [updB]
    · rw [if_neg e, goneC_at hj]
      simp [updB, show j ≠ i from fun h => e h.symm]
  rw [Array.getElem?_eq_getElem h1] at e2
  exact Option.some.inj (e2.trans e1.symm)

theorem Blk.grownOwn {w w' : World} {g base : Nat} {t e : TypeId} {cs : Array Value} {v : Value} {l : List Value} (h : Blk w g t cs) (o : Owns1 w base e v l) (hne : t ≠ e) (hg : w.grownBy w' v.ownBlock) : Blk w' g t cs := by
  refine h.grown hg fun he => ?_
  rcases o.2 with ⟨rfl, _⟩ | ⟨r, cap, cur, rfl, _, hr, _⟩
  · cases he
  · simp only [Value.ownBlock, Option.some.injEq] at he
    subst he
    exact Blk.ne_ h hr hne rfl
theorem Made.grown {w w' : World} {g B base : Nat} {Z : Nat → Nat} {gn : Nat → Bool} {L : List (Nat × Nat)} {v : Value} {l : List Value} (h : Made w g B Z gn L) (o : Owns1 w base 56 v l) (hg : w.grownBy w' v.ownBlock) : Made w' g B Z gn L := by
  refine ⟨fun j b d hj => ?_, h.2⟩
  obtain ⟨h1, h2, h3⟩ := h.1 j b d hj
  refine ⟨h1, h2, ?_⟩
  split at h3
  · rename_i e
    rw [if_pos e]
    exact Blk.grownOwn h3 o (by decide) hg
  · rename_i e
    rw [if_neg e]
    exact ⟨Blk.grownOwn h3.blk o (by decide) hg, Blk.grownOwn h3.row o (by decide) hg⟩
theorem Turn.grown {w w' : World} {g : Nat} (h : Turn [g] w w') : w.grownBy w' (some g) := ⟨h.os, h.tape, h.output, h.size, fun i hi hne => h.block i hi (by simp; rintro rfl; exact hne rfl)⟩
theorem Turn.blocks {S : List Nat} {w w' : World} (h : Turn S w w') {v : Value} (hv : v.ownBlock = none ∨ ∃ r, v.ownBlock = some r ∧ r ∉ S ∧ r < w.heap.size) : True := trivial
theorem Owns1.turn {S : List Nat} {w w' : World} {base : Nat} {e : TypeId} {v : Value} {l : List Value} (o : Owns1 w base e v l) (k : Turn S w w') (hS : ∀ i ∈ S, ∃ t cs, Blk w i t cs ∧ t ≠ e) : Owns1 w' base e v l := by
  refine ⟨o.1, ?_⟩
  rcases o.2 with h | ⟨r, cap, cur, hv, hb, hr, h4, h5, h6, h7⟩
  · exact .inl h
  · refine .inr ⟨r, cap, cur, hv, hb, ?_, h4, h5, h6, h7⟩
    exact Blk.turn hr k (fun hm => by obtain ⟨t, cs, hbk, hn⟩ := hS r hm; exact Blk.ne_ hbk hr hn rfl)
theorem infoP : (Try.prog.info? 56).map (fun i => (i.zero, i.size, i.bytes)) = some (some (.pointer none), 1, 8) := by kernel_rfl
theorem infoB : (Try.prog.info? 4).map (fun i => (i.zero, i.size, i.bytes)) = some (some (.bool false), 1, 1) := by kernel_rfl

theorem keptN_le (Z : Nat → Nat) (gn : Nat → Bool) (n : Nat) : keptN Z gn n ≤ keptN Z (fun _ => false) n := by
  induction n with
  | zero => exact Nat.le_refl _
  | succ n ih =>
    simp only [keptN, Bool.false_eq_true, if_false]
    split <;> omega
theorem lm_giveN (K z K1 p : Nat) (h : K = K1 + z) : (LM (K : Int) (p : Int)).give (z : Int) = (LM (K1 : Int) (p : Int), true) := by
  have := lm_give (k := (K : Int)) (p := (p : Int)) (n := (z : Int)) (by omega) (by omega)
  rw [this, show (K : Int) - (z : Int) = (K1 : Int) by omega]
theorem lm_okP (K p : Nat) (h : K ≤ p) (h2 : p ≤ 5100) : (LM (K : Int) (p : Int)).Ok := LM.ok (by omega) (by omega) (by omega)
theorem Owns1.blk {w : World} {base : Nat} {e : TypeId} {v : Value} {l : List Value} (h : Owns1 w base e v l) : (v = .slice none 0 0 ∧ l = []) ∨ ∃ g cap cur, v = .slice (some ⟨g, 0, none⟩) l.length cap ∧ base ≤ g ∧ Blk w g e cur ∧ l.length ≤ cap ∧ cap ≤ maxLen ∧ ∀ j, j < l.length → cur[j]? = l[j]? := by
  rcases h.2 with ⟨rfl, hn⟩ | ⟨g, cap, cur, rfl, hb, hg, hc, hm, hs, ht⟩
  · exact .inl ⟨rfl, List.eq_nil_of_length_eq_zero hn⟩
  · refine .inr ⟨g, cap, cur, rfl, hb, hg, hc, hm, fun j hj => ?_⟩
    rw [← Array.getElem?_toList]
    have : l[j]? = (cur.toList.take (l.length * 1))[j]? := by rw [ht]
    rw [this, List.getElem?_take_of_lt (by omega)]
end Go.Proofs.Ytncdchaecbndlaa
