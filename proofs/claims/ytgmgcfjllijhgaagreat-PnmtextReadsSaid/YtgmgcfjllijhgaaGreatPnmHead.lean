/- Plain: the head of a text. -/
import Derived.Test.YtgmgcfjllijhgaaGreatTokLaw
namespace Go.Proofs.YtgmgcfjllijhgaaGreat
set_option linter.unusedVariables false

/-- a head's number: a value and the place behind it, or a fault's kind and place -/
def hnum (l : List Nat) (a most above : Nat) : Got :=
  let x := numberAt l a
  if x.Kind ≠ 0 then ⟨0, 0, 0, x.Kind, x.Place⟩ else if x.V = 0 then ⟨0, 0, 0, 2, x.At⟩ else if most < x.V then ⟨0, 0, 0, above, x.At⟩ else ⟨x.V, 0, x.Next, 0, 0⟩
/-- a head: kind, sides, the greatest sample, its end; or a fault's kind and place -/
structure HeadR where
  K : Nat
  W : Nat
  H : Nat
  M : Nat
  At : Nat
  Kind : Nat
  Place : Nat
def hbad (kd pl : Nat) : HeadR := ⟨0, 0, 0, 0, 0, kd, pl⟩
/-- the end behind the numbers -/
def hfin (l : List Nat) (K W H M at_ : Nat) : HeadR :=
  if 4 ≤ K then (if l.length ≤ at_ then hbad 1 l.length else if isBlank (l.getD at_ 0) = true then ⟨K, W, H, M, at_ + 1, 0, 0⟩ else hbad 2 at_) else ⟨K, W, H, M, at_, 0, 0⟩
def hmost (l : List Nat) (K W H at_ : Nat) : HeadR :=
  if K = 1 ∨ K = 4 then hfin l K W H 1 at_ else
  let c := hnum l at_ 65535 2
  if c.Kind ≠ 0 then hbad c.Kind c.Place else hfin l K W H c.V c.Next
def hrest2 (l : List Nat) (K W at_ : Nat) : HeadR :=
  let b := hnum l at_ 16384 3
  if b.Kind ≠ 0 then hbad b.Kind b.Place else hmost l K W b.V b.Next
def hrest1 (l : List Nat) (K at_ : Nat) : HeadR :=
  let a := hnum l at_ 16384 3
  if a.Kind ≠ 0 then hbad a.Kind a.Place else hrest2 l K a.V a.Next
def hsides (l : List Nat) (K : Nat) : HeadR := hrest1 l K 2
def headAt (l : List Nat) : HeadR :=
  if l.length < 1 then hbad 1 0 else if l.getD 0 0 ≠ 80 then hbad 2 0 else if l.length < 2 then hbad 1 1 else if l.getD 1 0 < 49 ∨ 54 < l.getD 1 0 then hbad 2 1 else hsides l (l.getD 1 0 - 48)

theorem numberAt_or (l : List Nat) (a : Nat) (ha : a ≤ l.length) : (∃ kd pl, numberAt l a = ⟨0, 0, 0, kd, pl⟩ ∧ kd ≠ 0 ∧ kd ≤ 2 ∧ pl ≤ l.length) ∨ (∃ V f n, numberAt l a = ⟨V, f, n, 0, 0⟩ ∧ n ≤ l.length ∧ V ≤ 1000000000 ∧ a ≤ n ∧ f ≤ n) := by
  unfold numberAt
  simp only
  have h1 := overN_le false (l.drop a)
  rw [List.length_drop] at h1
  split
  · exact .inl ⟨1, l.length, rfl, by decide, by decide, Nat.le_refl _⟩
  · split
    · have h2 := digN_le (l.drop (a + overN false (l.drop a)))
      rw [List.length_drop] at h2
      exact .inr ⟨_, _, _, rfl, by omega, digV_le _ (Nat.zero_le _), by omega, by omega⟩
    · exact .inl ⟨2, _, rfl, by decide, by decide, by omega⟩
/-- the ways of a head's number -/
inductive HNum (l : List Nat) (a most above : Nat) : Prop
  | bad (kd pl : Nat) (h : numberAt l a = ⟨0, 0, 0, kd, pl⟩) (q : hnum l a most above = ⟨0, 0, 0, kd, pl⟩) (h0 : kd ≠ 0) (h2 : kd ≤ 2) (hp : pl ≤ l.length)
  | zero (f n : Nat) (h : numberAt l a = ⟨0, f, n, 0, 0⟩) (q : hnum l a most above = ⟨0, 0, 0, 2, f⟩) (hp : f ≤ l.length)
  | above (V f n : Nat) (h : numberAt l a = ⟨V, f, n, 0, 0⟩) (q : hnum l a most above = ⟨0, 0, 0, above, f⟩) (h0 : V ≠ 0) (hm : most < V) (hp : f ≤ l.length) (hV : V ≤ 1000000000)
  | ok (V f n : Nat) (h : numberAt l a = ⟨V, f, n, 0, 0⟩) (q : hnum l a most above = ⟨V, 0, n, 0, 0⟩) (h0 : V ≠ 0) (hm : V ≤ most) (hn : n ≤ l.length) (han : a ≤ n) (hp : f ≤ l.length)
theorem hnum_or (l : List Nat) (a most above : Nat) (ha : a ≤ l.length) : HNum l a most above := by
  rcases numberAt_or l a ha with ⟨kd, pl, h, h0, h2, hp⟩ | ⟨V, f, n, h, hn, hV, han, hf⟩
  · refine .bad kd pl h ?_ h0 h2 hp
    unfold hnum
    simp only [h]
    rw [if_pos h0]
  · by_cases h0 : V = 0
    · subst h0
      refine .zero f n h ?_ (by omega)
      unfold hnum
      simp only [h]
      rfl
    · by_cases hm : most < V
      · refine .above V f n h ?_ h0 hm (by omega) hV
        unfold hnum
        simp only [h]
        rw [if_neg (by simp), if_neg h0, if_pos hm]
      · refine .ok V f n h ?_ h0 (by omega) hn han (by omega)
        unfold hnum
        simp only [h]
        rw [if_neg (by simp), if_neg h0, if_neg hm]


/-- a head is a fault, or one within its limits -/
def HGood (m : Nat) (x : HeadR) : Prop := (∃ kd pl, x = hbad kd pl ∧ kd ≠ 0 ∧ kd ≤ 4 ∧ pl ≤ m) ∨ (∃ K W H M n, x = ⟨K, W, H, M, n, 0, 0⟩ ∧ K ≤ 6 ∧ W ≤ 16384 ∧ H ≤ 16384 ∧ M ≤ 65535 ∧ n ≤ m)
theorem hfin_good (l : List Nat) (K W H M a : Nat) (hK : K ≤ 6) (hW : W ≤ 16384) (hH : H ≤ 16384) (hM : M ≤ 65535) (ha : a ≤ l.length) : HGood l.length (hfin l K W H M a) := by
  unfold hfin
  split
  · split
    · exact .inl ⟨1, _, rfl, by decide, by decide, Nat.le_refl _⟩
    · split
      · exact .inr ⟨K, W, H, M, a + 1, rfl, hK, hW, hH, hM, by omega⟩
      · exact .inl ⟨2, a, rfl, by decide, by decide, ha⟩
  · exact .inr ⟨K, W, H, M, a, rfl, hK, hW, hH, hM, ha⟩
/-- what is behind a head's number -/
theorem hnum_good {l : List Nat} {a most above : Nat} (ha : a ≤ l.length) (hab : above ≠ 0) (hab4 : above ≤ 4) : (∃ kd pl, hnum l a most above = ⟨0, 0, 0, kd, pl⟩ ∧ kd ≠ 0 ∧ kd ≤ 4 ∧ pl ≤ l.length) ∨ (∃ V n, hnum l a most above = ⟨V, 0, n, 0, 0⟩ ∧ V ≤ most ∧ n ≤ l.length) := by
  rcases hnum_or l a most above ha with ⟨kd, pl, h, q, h0, h2, hp⟩ | ⟨f, n, h, q, hp⟩ | ⟨V, f, n, h, q, h0, hmV, hp, hV⟩ | ⟨V, f, n, h, q, h0, hmV, hn, han, hp⟩
  · exact .inl ⟨_, _, q, h0, by omega, hp⟩
  · exact .inl ⟨_, _, q, by decide, by decide, hp⟩
  · exact .inl ⟨_, _, q, hab, hab4, hp⟩
  · exact .inr ⟨_, _, q, hmV, hn⟩
theorem headAt_good (l : List Nat) : HGood l.length (headAt l) := by
  unfold headAt
  split
  · exact .inl ⟨1, 0, rfl, by decide, by decide, Nat.zero_le _⟩
  · split
    · exact .inl ⟨2, 0, rfl, by decide, by decide, Nat.zero_le _⟩
    · split
      · exact .inl ⟨1, 1, rfl, by decide, by decide, by omega⟩
      · split
        · exact .inl ⟨2, 1, rfl, by decide, by decide, by omega⟩
        · unfold hsides hrest1
          simp only
          rcases hnum_good (l := l) (a := 2) (most := 16384) (above := 3) (by omega) (by decide) (by decide) with ⟨kd, pl, e, k0, k4, kp⟩ | ⟨W, n1, e, hW, h1⟩
          · simp only [e]
            rw [if_pos k0]
            exact .inl ⟨kd, pl, rfl, k0, k4, kp⟩
          simp only [e]
          rw [if_neg (by simp)]
          unfold hrest2
          simp only
          rcases hnum_good (l := l) (a := n1) (most := 16384) (above := 3) h1 (by decide) (by decide) with ⟨kd, pl, e, k0, k4, kp⟩ | ⟨H, n2, e, hH, h2⟩
          · simp only [e]
            rw [if_pos k0]
            exact .inl ⟨kd, pl, rfl, k0, k4, kp⟩
          simp only [e]
          rw [if_neg (by simp)]
          unfold hmost
          split
          · exact hfin_good _ _ _ _ _ _ (by omega) hW hH (by decide) h2
          · simp only
            rcases hnum_good (l := l) (a := n2) (most := 65535) (above := 2) h2 (by decide) (by decide) with ⟨kd, pl, e, k0, k4, kp⟩ | ⟨M, n3, e, hM, h3⟩
            · simp only [e]
              rw [if_pos k0]
              exact .inl ⟨kd, pl, rfl, k0, k4, kp⟩
            simp only [e]
            rw [if_neg (by simp)]
            exact hfin_good _ _ _ _ _ _ (by omega) hW hH hM h3
end Go.Proofs.YtgmgcfjllijhgaaGreat
