/- Plain: a qoi file, as a decoder takes it. -/
import Derived.Test.YtojobfnbakiicaaGreatFfLaw
import Derived.Test.YtojobfnbakiicaaGreatQoiA
namespace Go.Proofs.YtojobfnbakiicaaGreat
open Go.RowKit
set_option linter.unusedVariables false

def qoiW : List Nat := [113, 111, 105, 102]
def qoiHead (s : ByteArray) : Option (Nat × Nat) :=
  if offFrom s qoiW 4 0 < 4 then some (2, offFrom s qoiW 4 0) else match sideBad (beN s 4 4) 4 with
    | some f => some f
    | none => match sideBad (beN s 8 4) 8 with
      | some f => some f
      | none => if bat s 12 ≠ 3 ∧ bat s 12 ≠ 4 then some (2, 12) else if 1 < bat s 13 then some (2, 13) else none
/-- how many bytes stand behind a step's first one -/
def qneed (b : Nat) : Nat := if b = 254 then 3 else if b = 255 then 4 else if b / 64 = 2 then 1 else 0
def qadd (v : UInt8) (d : Int) : UInt8 := UInt8.ofNat (((v.toNat : Int) + d + 512) % 256).toNat
def qshift (q : Qc) (r g b : Int) : Qc := ⟨qadd q.r r, qadd q.g g, qadd q.b b, q.a⟩
def b8 (s : ByteArray) (i : Nat) : UInt8 := UInt8.ofNat (bat s i)
theorem b8_int (s : ByteArray) (i : Nat) : ((b8 s i).toNat : Int) = (bat s i : Int) := ofNat8 (bat_lt s i)
/-- a step's pixel, and how often it stands -/
def qstep (s : ByteArray) (a : Nat) (last : Qc) (seen : List Qc) : Qc × Nat :=
  if bat s a = 254 then (⟨b8 s (a + 1), b8 s (a + 2), b8 s (a + 3), last.a⟩, 1)
  else if bat s a = 255 then (⟨b8 s (a + 1), b8 s (a + 2), b8 s (a + 3), b8 s (a + 4)⟩, 1)
  else if bat s a < 64 then (seen.getD (bat s a) qnone, 1)
  else if bat s a < 128 then (qshift last (((bat s a % 64 / 16 : Nat) : Int) - 2) (((bat s a / 4 % 4 : Nat) : Int) - 2) (((bat s a % 4 : Nat) : Int) - 2), 1)
  else if bat s a < 192 then (qshift last (((bat s a % 64 : Nat) : Int) - 32 + ((bat s (a + 1) / 16 : Nat) : Int) - 8) (((bat s a % 64 : Nat) : Int) - 32) (((bat s a % 64 : Nat) : Int) - 32 + ((bat s (a + 1) % 16 : Nat) : Int) - 8), 1)
  else (last, bat s a % 64 + 1)
theorem qstep_pos (s : ByteArray) (a : Nat) (last : Qc) (seen : List Qc) : 1 ≤ (qstep s a last seen).2 ∧ (qstep s a last seen).2 ≤ 64 := by
  have := bat_lt s a
  unfold qstep
  repeat' split
  all_goals simp only
  all_goals omega
/-- so many steps of work -/
def works (z a : Nat) (k : Dec) : Nat → Dec
  | 0 => k
  | n + 1 => .work 1 z a (works z a k n)
def qoiTail (s : ByteArray) (W H z : Nat) (L : List Qc) : Nat → Nat → Dec
  | 0, a => .fin (.img W H (flat L))
  | n + 1, a => .work 1 z a (if a < s.size then if bat s a = (7 - n) / 7 then qoiTail s W H z L n (a + 1) else .give z (.fin (.bad 2 a)) else .give z (.fin (.bad 1 s.size)))
def qoiPix (s : ByteArray) (W H N z : Nat) : Nat → Nat → Qc → List Qc → List Qc → Dec
  | 0, a, last, seen, L => if N ≤ L.length then qoiTail s W H z L 8 a else .give z (.fin (.bad 1 s.size))
  | f + 1, a, last, seen, L =>
    if N ≤ L.length then qoiTail s W H z L 8 a else
    .work 1 z a (if a < s.size then
      let put := if N - L.length < (qstep s a last seen).2 then .give z (.fin (.bad 2 a)) else works z (a + 1 + qneed (bat s a)) (qoiPix s W H N z f (a + 1 + qneed (bat s a)) (qstep s a last seen).1 (seen.set (qplace (qstep s a last seen).1) (qstep s a last seen).1) (L ++ List.replicate (qstep s a last seen).2 (qstep s a last seen).1)) (qstep s a last seen).2
      if qneed (bat s a) = 0 then put else .work 1 z (a + 1) (if a + 1 + qneed (bat s a) ≤ s.size then put else .give z (.fin (.bad 1 s.size)))
    else .give z (.fin (.bad 1 s.size)))
def qseen : List Qc := List.replicate 64 qnone
def qoiBody (s : ByteArray) (W H : Nat) : Dec := .sides W H 14 (.take (4 * (W * H)) 14 (qoiPix s W H (W * H) (4 * (W * H)) (W * H) 14 q255 qseen []))
def qoiDec (s : ByteArray) : Dec :=
  .work 1 0 0 (if s.size < 14 then .fin (.bad 1 s.size) else match qoiHead s with
    | some f => .fin (.bad f.1 f.2)
    | none => qoiBody s (beN s 4 4) (beN s 8 4))
/-- the ways of a head -/
inductive QoiHead (s : ByteArray) : Option (Nat × Nat) → Prop where
  | word (i : Nat) (h : i < 4) (o : Off s qoiW 0 4 i) : QoiHead s (some (2, i))
  | w0 (o : Off s qoiW 0 4 4) (h : beN s 4 4 = 0) : QoiHead s (some (2, 4))
  | w1 (o : Off s qoiW 0 4 4) (h : 16384 < beN s 4 4) : QoiHead s (some (3, 4))
  | h0 (o : Off s qoiW 0 4 4) (h1 : 1 ≤ beN s 4 4) (h2 : beN s 4 4 ≤ 16384) (h : beN s 8 4 = 0) : QoiHead s (some (2, 8))
  | h1 (o : Off s qoiW 0 4 4) (h1 : 1 ≤ beN s 4 4) (h2 : beN s 4 4 ≤ 16384) (h : 16384 < beN s 8 4) : QoiHead s (some (3, 8))
  | c0 (o : Off s qoiW 0 4 4) (h1 : 1 ≤ beN s 4 4) (h2 : beN s 4 4 ≤ 16384) (h3 : 1 ≤ beN s 8 4) (h4 : beN s 8 4 ≤ 16384) (h : bat s 12 ≠ 3 ∧ bat s 12 ≠ 4) : QoiHead s (some (2, 12))
  | c1 (o : Off s qoiW 0 4 4) (h1 : 1 ≤ beN s 4 4) (h2 : beN s 4 4 ≤ 16384) (h3 : 1 ≤ beN s 8 4) (h4 : beN s 8 4 ≤ 16384) (h5 : bat s 12 = 3 ∨ bat s 12 = 4) (h : 1 < bat s 13) : QoiHead s (some (2, 13))
  | ok (o : Off s qoiW 0 4 4) (h1 : 1 ≤ beN s 4 4) (h2 : beN s 4 4 ≤ 16384) (h3 : 1 ≤ beN s 8 4) (h4 : beN s 8 4 ≤ 16384) (h5 : bat s 12 = 3 ∨ bat s 12 = 4) (h6 : bat s 13 ≤ 1) : QoiHead s none
theorem qoiHead_is (s : ByteArray) : QoiHead s (qoiHead s) := by
  have o := offFrom_is s qoiW 4 0
  unfold qoiHead
  by_cases h : offFrom s qoiW 4 0 < 4
  · rw [if_pos h]; exact .word _ h o
  · rw [if_neg h]
    have e : offFrom s qoiW 4 0 = 4 := by have := o.hi; omega
    rw [e] at o
    rcases sideBad_cases (beN s 4 4) 4 with ⟨a, b⟩ | ⟨a, b⟩ | ⟨a, a', b⟩
    · rw [b]; exact .w0 o a
    · rw [b]; exact .w1 o a
    · rw [b]
      rcases sideBad_cases (beN s 8 4) 8 with ⟨c, d⟩ | ⟨c, d⟩ | ⟨c, c', d⟩
      · simp only [d]; exact .h0 o a a' c
      · simp only [d]; exact .h1 o a a' c
      · simp only [d]
        by_cases h1 : bat s 12 ≠ 3 ∧ bat s 12 ≠ 4
        · rw [if_pos h1]; exact .c0 o a a' c c' h1
        · rw [if_neg h1]
          by_cases h2 : 1 < bat s 13
          · rw [if_pos h2]; exact .c1 o a a' c c' (by omega) h2
          · rw [if_neg h2]; exact .ok o a a' c c' (by omega) (by omega)
theorem works_bal {e z a : Nat} {k : Dec} (ha : a ≤ e) (hk : k.bal e z) : ∀ n, (works z a k n).bal e z := by
  intro n
  induction n with
  | zero => exact hk
  | succ n ih => exact ⟨rfl, ha, ih⟩
theorem works_cost (z a : Nat) (k : Dec) : ∀ n, (works z a k n).cost = n + k.cost := by
  intro n
  induction n with
  | zero => simp [works]
  | succ n ih =>
    show (1 : Int).toNat + (works z a k n).cost = n + 1 + k.cost
    rw [ih]; have : (1 : Int).toNat = 1 := rfl; omega
theorem works_may {z a : Nat} {k : Dec} {B w h : Int} (hk : k.may B w h) : ∀ n, (works z a k n).may B w h := by
  intro n
  induction n with
  | zero => exact hk
  | succ n ih => exact ⟨by decide, ih⟩
theorem works_told (z a : Nat) (k : Dec) : ∀ n, (works z a k n).told = k.told := by
  intro n
  induction n with
  | zero => rfl
  | succ n ih => exact ih
theorem give_bal {e z k a : Nat} (hk : k ≠ 4) (ha : a ≤ e) : (Dec.give z (.fin (.bad k a))).bal e z := ⟨Nat.le_refl _, by omega, hk, ha⟩
theorem qoiTail_bal {s : ByteArray} {W H z : Nat} {L : List Qc} (hz : z = 4 * (W * H)) (hL : L.length = W * H) : ∀ n a, a ≤ s.size → (qoiTail s W H z L n a).bal s.size z := by
  intro n
  induction n with
  | zero => intro a _; exact ⟨hz, by rw [flat_len, hL]⟩
  | succ n ih =>
    intro a ha
    refine ⟨rfl, ha, ?_⟩
    by_cases h : a < s.size
    · rw [if_pos h]
      split
      · exact ih _ (by omega)
      · exact give_bal (by decide) ha
    · rw [if_neg h]; exact give_bal (by decide) (Nat.le_refl _)
theorem qoiPix_bal {s : ByteArray} {W H z N : Nat} (hz : z = 4 * (W * H)) (hN : N = W * H) : ∀ f a last seen L, a ≤ s.size → L.length ≤ N → (qoiPix s W H N z f a last seen L).bal s.size z := by
  intro f
  induction f with
  | zero =>
    intro a last seen L ha hL
    unfold qoiPix
    by_cases h : N ≤ L.length
    · rw [if_pos h]; exact qoiTail_bal hz (by omega) _ _ ha
    · rw [if_neg h]; exact give_bal (by decide) (Nat.le_refl _)
  | succ f ih =>
    intro a last seen L ha hL
    unfold qoiPix
    by_cases h : N ≤ L.length
    · rw [if_pos h]; exact qoiTail_bal hz (by omega) _ _ ha
    · rw [if_neg h]
      refine ⟨rfl, ha, ?_⟩
      by_cases h2 : a < s.size
      · rw [if_pos h2]
        have put : a + 1 + qneed (bat s a) ≤ s.size → (if N - L.length < (qstep s a last seen).2 then Dec.give z (.fin (.bad 2 a)) else works z (a + 1 + qneed (bat s a)) (qoiPix s W H N z f (a + 1 + qneed (bat s a)) (qstep s a last seen).1 (seen.set (qplace (qstep s a last seen).1) (qstep s a last seen).1) (L ++ List.replicate (qstep s a last seen).2 (qstep s a last seen).1)) (qstep s a last seen).2).bal s.size z := by
          intro h3
          split
          · exact give_bal (by decide) ha
          · exact works_bal h3 (ih _ _ _ _ h3 (by rw [List.length_append, List.length_replicate]; omega)) _
        by_cases h4 : qneed (bat s a) = 0
        · simp only [h4, if_true] at put ⊢
          exact put (by omega)
        · simp only [if_neg h4]
          refine ⟨rfl, by omega, ?_⟩
          by_cases h5 : a + 1 + qneed (bat s a) ≤ s.size
          · rw [if_pos h5]; exact put h5
          · rw [if_neg h5]; exact give_bal (by decide) (Nat.le_refl _)
      · rw [if_neg h2]; exact give_bal (by decide) (Nat.le_refl _)
theorem qoiBody_bal (s : ByteArray) (W H : Nat) (h : 14 ≤ s.size) : (qoiBody s W H).bal s.size 0 := by
  refine ⟨rfl, h, rfl, h, ?_⟩
  rw [Nat.zero_add]
  exact qoiPix_bal rfl rfl _ _ _ _ _ (by omega) (Nat.zero_le _)
theorem qoiDec_bal (s : ByteArray) : (qoiDec s).bal s.size 0 := by
  refine ⟨rfl, Nat.zero_le _, ?_⟩
  by_cases h : s.size < 14
  · rw [if_pos h]; exact ⟨rfl, by decide, Nat.le_refl _⟩
  · rw [if_neg h]
    have hk := qoiHead_is s
    generalize qoiHead s = o at hk ⊢
    cases hk with
    | ok o a b c d => exact qoiBody_bal s _ _ (by omega)
    | _ => exact ⟨rfl, by simp, by simp only; omega⟩
theorem qoiTail_cost (s : ByteArray) (W H z : Nat) (L : List Qc) : ∀ n a, (qoiTail s W H z L n a).cost ≤ n := by
  intro n
  induction n with
  | zero => intro a; exact Nat.le_refl _
  | succ n ih =>
    intro a
    unfold qoiTail Dec.cost
    have := ih (a + 1)
    have h1 : (1 : Int).toNat = 1 := rfl
    split
    · split
      · omega
      · simp only [Dec.cost]; omega
    · simp only [Dec.cost]; omega
theorem qoiPix_cost (s : ByteArray) (W H z N : Nat) : ∀ f a last seen L, (qoiPix s W H N z f a last seen L).cost ≤ 2 * f + (N - L.length) + 8 := by
  intro f
  induction f with
  | zero =>
    intro a last seen L
    unfold qoiPix
    split
    · have := qoiTail_cost s W H z L 8 a; omega
    · simp only [Dec.cost]; omega
  | succ f ih =>
    intro a last seen L
    unfold qoiPix
    have h1 : (1 : Int).toNat = 1 := rfl
    split
    · have := qoiTail_cost s W H z L 8 a; omega
    · unfold Dec.cost
      have put : (if N - L.length < (qstep s a last seen).2 then Dec.give z (.fin (.bad 2 a)) else works z (a + 1 + qneed (bat s a)) (qoiPix s W H N z f (a + 1 + qneed (bat s a)) (qstep s a last seen).1 (seen.set (qplace (qstep s a last seen).1) (qstep s a last seen).1) (L ++ List.replicate (qstep s a last seen).2 (qstep s a last seen).1)) (qstep s a last seen).2).cost ≤ 2 * f + (N - L.length) + 8 := by
        split
        · simp only [Dec.cost]; omega
        · rw [works_cost]
          have := ih (a + 1 + qneed (bat s a)) (qstep s a last seen).1 (seen.set (qplace (qstep s a last seen).1) (qstep s a last seen).1) (L ++ List.replicate (qstep s a last seen).2 (qstep s a last seen).1)
          rw [List.length_append, List.length_replicate] at this
          omega
      split
      · simp only
        split
        · omega
        · unfold Dec.cost
          split
          · omega
          · simp only [Dec.cost]; omega
      · simp only [Dec.cost]; omega
theorem qoiTail_may (s : ByteArray) (W H z : Nat) (L : List Qc) (B w h : Int) : ∀ n a, (qoiTail s W H z L n a).may B w h := by
  intro n
  induction n with
  | zero => intro a; exact trivial
  | succ n ih =>
    intro a
    refine ⟨by decide, ?_⟩
    split
    · split
      · exact ih _
      · exact trivial
    · exact trivial
theorem qoiPix_may (s : ByteArray) (W H z N : Nat) (B w h : Int) : ∀ f a last seen L, (qoiPix s W H N z f a last seen L).may B w h := by
  intro f
  induction f with
  | zero =>
    intro a last seen L
    unfold qoiPix
    split
    · exact qoiTail_may _ _ _ _ _ _ _ _ _ _
    · exact trivial
  | succ f ih =>
    intro a last seen L
    unfold qoiPix
    split
    · exact qoiTail_may _ _ _ _ _ _ _ _ _ _
    · refine ⟨by decide, ?_⟩
      have put : (if N - L.length < (qstep s a last seen).2 then Dec.give z (.fin (.bad 2 a)) else works z (a + 1 + qneed (bat s a)) (qoiPix s W H N z f (a + 1 + qneed (bat s a)) (qstep s a last seen).1 (seen.set (qplace (qstep s a last seen).1) (qstep s a last seen).1) (L ++ List.replicate (qstep s a last seen).2 (qstep s a last seen).1)) (qstep s a last seen).2).may B w h := by
        split
        · exact trivial
        · exact works_may (ih _ _ _ _) _
      split
      · simp only
        split
        · exact put
        · refine ⟨by decide, ?_⟩
          split
          · exact put
          · exact trivial
      · exact trivial
/-- the sides that a head tells, or noughts -/
def qoiSides (s : ByteArray) : Nat × Nat := if s.size < 14 then (0, 0) else match qoiHead s with | some _ => (0, 0) | none => (beN s 4 4, beN s 8 4)
/-- what is enough for small images -/
theorem qoiDec_enough (s : ByteArray) (hw : (qoiSides s).1 ≤ 60) (hh : (qoiSides s).2 ≤ 60) : (qoiDec s).cost ≤ 20000 ∧ (qoiDec s).may 262144 16384 16384 := by
  unfold qoiDec Dec.cost Dec.may
  unfold qoiSides at hw hh
  by_cases h : s.size < 14
  · rw [if_pos h]; exact ⟨by unfold Dec.cost; decide, by decide, trivial⟩
  · rw [if_neg h] at hw hh ⊢
    have hk := qoiHead_is s
    generalize qoiHead s = o at hk hw hh ⊢
    cases hk with
    | ok o a b c d =>
      have hW : beN s 4 4 ≤ 60 := hw
      have hH : beN s 8 4 ≤ 60 := hh
      have hp : beN s 4 4 * beN s 8 4 ≤ 3600 := Nat.mul_le_mul hW hH
      have hc := qoiPix_cost s (beN s 4 4) (beN s 8 4) (4 * (beN s 4 4 * beN s 8 4)) (beN s 4 4 * beN s 8 4) (beN s 4 4 * beN s 8 4) 14 q255 qseen []
      have hm := qoiPix_may s (beN s 4 4) (beN s 8 4) (4 * (beN s 4 4 * beN s 8 4)) (beN s 4 4 * beN s 8 4) 262144 16384 16384 (beN s 4 4 * beN s 8 4) 14 q255 qseen []
      refine ⟨?_, by decide, ?_⟩
      · show _ + (qoiBody s (beN s 4 4) (beN s 8 4)).cost ≤ _
        unfold qoiBody Dec.cost Dec.cost
        have : (1 : Int).toNat = 1 := rfl
        simp only [List.length_nil] at hc
        omega
      · exact ⟨⟨by omega, by omega⟩, ⟨by omega, by omega⟩, by omega, hm⟩
    | _ => exact ⟨by unfold Dec.cost; decide, by decide, trivial⟩
end Go.Proofs.YtojobfnbakiicaaGreat
