/- Plain: numbers of bytes, the highest first; the first place that differs from a word. Plain: a decoder as what it asks of a budget, and what it tells in the end; by any budget it tells as without one, or that it is spent. Plain: blanks, remarks and numbers in a text. Plain: the head of a text. -/
import Derived.Test.YthljhebbblhakaaGreatDoorEBits
import Derived.Test.YthljhebbblhakaaGreatDoorESync
namespace Go.Proofs.YthljhebbblhakaaGreatDoor
set_option linter.unusedVariables false

/-- n bytes from i on as a number, the highest first -/
def beN (s : ByteArray) (i : Nat) : Nat → Nat
  | 0 => 0
  | n + 1 => beN s i n * 256 + bat s (i + n)
end Go.Proofs.YthljhebbblhakaaGreatDoor
namespace Go.Proofs.YthljhebbblhakaaGreatDoor
set_option linter.unusedVariables false

/-- what is told: a fault's kind and place, or a raster -/
inductive DRes where
  | bad (k a : Nat)
  | img (W H : Nat) (l : List UInt8)
/-- what is asked: steps of work, sides, bytes; where it is refused so many bytes are given back, and the place is told -/
inductive Dec where
  | fin (r : DRes)
  | work (n : Int) (fr a : Nat) (k : Dec)
  | sides (W H : Int) (a : Nat) (k : Dec)
  | take (n a : Nat) (k : Dec)
  | give (n : Nat) (k : Dec)
  | hold (n fr a : Nat) (k : Dec)
def Dec.run : Dec → Led → Led × DRes
  | .fin r, x => (x, r)
  | .work n fr a k, x => if (x.work n).2 = true then k.run (x.work n).1 else (((x.work n).1.give fr).1, .bad 4 a)
  | .sides W H a k, x => if (x.sides W H).2 = true then k.run (x.sides W H).1 else ((x.sides W H).1, .bad 4 a)
  | .take n a k, x => if (x.take n).2 = true then k.run (x.take n).1 else ((x.take n).1, .bad 4 a)
  | .give n k, x => k.run (x.give n).1
  | .hold n fr a k, x => if (x.take n).2 = true then k.run (x.take n).1 else (((x.take n).1.give fr).1, .bad 4 a)
def Dec.told : Dec → DRes
  | .fin r => r
  | .work _ _ _ k => k.told
  | .sides _ _ _ k => k.told
  | .take _ _ k => k.told
  | .give _ k => k.told
  | .hold _ _ _ k => k.told
/-- so many bytes are kept; none behind a fault, the raster's behind an image; places are within e -/
def Dec.bal (e : Nat) : Dec → Nat → Prop
  | .fin (.bad k a), b => b = 0 ∧ k ≠ 4 ∧ a ≤ e
  | .fin (.img W H l), b => b = 4 * (W * H) ∧ l.length = 4 * (W * H)
  | .work _ fr a k, b => fr = b ∧ a ≤ e ∧ k.bal e b
  | .sides _ _ a k, b => b = 0 ∧ a ≤ e ∧ k.bal e b
  | .take n a k, b => b = 0 ∧ a ≤ e ∧ k.bal e (b + n)
  | .give n k, b => n ≤ b ∧ k.bal e (b - n)
  | .hold n fr a k, b => fr = b ∧ a ≤ e ∧ k.bal e (b + n)
def Dec.cost : Dec → Nat
  | .fin _ => 0
  | .work n _ _ k => n.toNat + k.cost
  | .sides _ _ _ k => k.cost
  | .take _ _ k => k.cost
  | .give _ k => k.cost
  | .hold _ _ _ k => k.cost
/-- no refusal by so many bytes, sides up to w and h -/
def Dec.may (B w h : Int) : Dec → Prop
  | .fin _ => True
  | .work n _ _ k => 0 ≤ n ∧ k.may B w h
  | .sides W H _ k => (1 ≤ W ∧ W ≤ w) ∧ (1 ≤ H ∧ H ≤ h) ∧ k.may B w h
  | .take n _ k => (n : Int) ≤ B ∧ k.may B w h
  | .give _ k => k.may B w h
  | .hold n fr _ k => (n : Int) + fr ≤ B ∧ k.may B w h
def DRes.kept : DRes → Nat
  | .bad _ _ => 0
  | .img W H _ => 4 * (W * H)

section
variable {x y : Led} {k : Dec}
theorem run_work_yes {n : Int} {fr a : Nat} (e : x.work n = (y, true)) : (Dec.work n fr a k).run x = k.run y := by rw [Dec.run, e]; rfl
theorem run_work_no {n : Int} {fr a : Nat} (e : x.work n = (y, false)) : (Dec.work n fr a k).run x = ((y.give fr).1, .bad 4 a) := by rw [Dec.run, e]; rfl
theorem run_sides_yes {W H : Int} {a : Nat} (e : x.sides W H = (y, true)) : (Dec.sides W H a k).run x = k.run y := by rw [Dec.run, e]; rfl
theorem run_sides_no {W H : Int} {a : Nat} (e : x.sides W H = (y, false)) : (Dec.sides W H a k).run x = (y, .bad 4 a) := by rw [Dec.run, e]; rfl
theorem run_take_yes {n a : Nat} (e : x.take n = (y, true)) : (Dec.take n a k).run x = k.run y := by rw [Dec.run, e]; rfl
theorem run_take_no {n a : Nat} (e : x.take n = (y, false)) : (Dec.take n a k).run x = (y, .bad 4 a) := by rw [Dec.run, e]; rfl
end
theorem led_work_no {x : Led} {n : Int} (h : (x.work n).2 = false) (hx : x.reason = 0) : (x.work n).1 = x.refused 3 n := by
  unfold Led.work at h ⊢
  rw [if_neg (by simpa using hx)] at h ⊢
  split
  · rfl
  · rename_i h'; rw [if_neg h'] at h; simp at h
theorem led_sides_no {x : Led} {a b : Int} (h : (x.sides a b).2 = false) (hx : x.reason = 0) : (x.sides a b).1.reason ≠ 0 ∧ (x.sides a b).1.bytes = x.bytes := by
  unfold Led.sides at h ⊢
  rw [if_neg (by simpa using hx)] at h ⊢
  split
  · simp [Led.refused]
  · rename_i h'
    rw [if_neg h'] at h
    split
    · simp [Led.refused]
    · rename_i h''; rw [if_neg h''] at h; simp at h
theorem led_take_no {x : Led} {n : Int} (h : (x.take n).2 = false) (hx : x.reason = 0) : (x.take n).1.reason ≠ 0 ∧ (x.take n).1.bytes = x.bytes := by
  unfold Led.take at h ⊢
  rw [if_neg (by simpa using hx)] at h ⊢
  split
  · simp [Led.refused]
  · rename_i h'; rw [if_neg h'] at h; simp at h
theorem led_work_yes {x : Led} {n : Int} (h : (x.work n).2 = true) : x.reason = 0 ∧ (x.work n).1.reason = 0 ∧ (x.work n).1.bytes = x.bytes ∧ 0 ≤ n ∧ (x.work n).1.steps = x.steps + n ∧ (x.work n).1.S = x.S ∧ (x.work n).1.B = x.B ∧ (x.work n).1.W = x.W ∧ (x.work n).1.H = x.H := by
  unfold Led.work at h ⊢
  by_cases hx : x.reason ≠ 0
  · rw [if_pos hx] at h; simp at h
  · rw [if_neg hx] at h ⊢
    by_cases h' : n < 0 ∨ x.S - x.steps < n
    · rw [if_pos h'] at h; simp at h
    · rw [if_neg h']
      exact ⟨by omega, by simpa using hx, rfl, by omega, rfl, rfl, rfl, rfl, rfl⟩
theorem led_sides_yes {x : Led} {a b : Int} (h : (x.sides a b).2 = true) : (x.sides a b).1 = x ∧ x.reason = 0 ∧ a ≤ x.W ∧ b ≤ x.H := by
  unfold Led.sides at h ⊢
  by_cases hx : x.reason ≠ 0
  · rw [if_pos hx] at h; simp at h
  · rw [if_neg hx] at h ⊢
    by_cases h1 : a < 1 ∨ x.W < a
    · rw [if_pos h1] at h; simp at h
    · rw [if_neg h1] at h ⊢
      by_cases h2 : b < 1 ∨ x.H < b
      · rw [if_pos h2] at h; simp at h
      · rw [if_neg h2]
        exact ⟨rfl, by omega, by omega, by omega⟩
theorem led_take_yes {x : Led} {n : Int} (h : (x.take n).2 = true) : x.reason = 0 ∧ (x.take n).1.reason = 0 ∧ (x.take n).1.bytes = x.bytes + n ∧ (x.take n).1.steps = x.steps ∧ (x.take n).1.S = x.S ∧ (x.take n).1.B = x.B ∧ (x.take n).1.W = x.W ∧ (x.take n).1.H = x.H := by
  unfold Led.take at h ⊢
  by_cases hx : x.reason ≠ 0
  · rw [if_pos hx] at h; simp at h
  · rw [if_neg hx] at h ⊢
    by_cases h' : n < 0 ∨ x.B - x.bytes < n
    · rw [if_pos h'] at h; simp at h
    · rw [if_neg h']
      exact ⟨by omega, by simpa using hx, rfl, rfl, rfl, rfl, rfl, rfl⟩
theorem led_give_yes {x : Led} {n : Int} (h0 : 0 ≤ n) (h1 : n ≤ x.bytes) : (x.give n).1 = { x with bytes := x.bytes - n } := by
  unfold Led.give
  rw [if_neg (by omega)]

/-- by any budget: as without one, or it is spent, at a place within, and nothing is kept -/
theorem Dec.run_cases (e : Nat) (d : Dec) : ∀ (b : Nat) (x : Led), d.bal e b → x.reason = 0 → x.bytes = (b : Int) →
    (∃ a, a ≤ e ∧ (d.run x).2 = .bad 4 a ∧ (d.run x).1.reason ≠ 0 ∧ (d.run x).1.bytes = 0) ∨ ((d.run x).2 = d.told ∧ (d.run x).1.reason = 0 ∧ (d.run x).1.bytes = (d.told.kept : Int)) := by
  induction d with
  | fin r =>
    intro b x hb hx hy
    refine .inr ⟨rfl, hx, ?_⟩
    cases r with
    | bad k a => obtain ⟨h, _⟩ := hb; show x.bytes = ((0 : Nat) : Int); rw [hy, h]
    | img W H l => obtain ⟨h, _⟩ := hb; show x.bytes = ((4 * (W * H) : Nat) : Int); rw [hy, h]
  | work n fr a k ih =>
    intro b x hb hx hy
    obtain ⟨rfl, ha, hk⟩ := hb
    unfold Dec.run
    by_cases h : (x.work n).2 = true
    · rw [if_pos h]
      obtain ⟨_, h2, h3, _⟩ := led_work_yes h
      exact ih _ _ hk h2 (h3.trans hy)
    · rw [if_neg h]
      have h' : (x.work n).2 = false := by simpa using h
      refine .inl ⟨a, ha, rfl, ?_⟩
      rw [led_work_no h' hx, led_give_yes (by omega) (by simp only [Led.refused]; omega)]
      simp only [Led.refused]
      exact ⟨by decide, by omega⟩
  | sides W H a k ih =>
    intro b x hb hx hy
    obtain ⟨rfl, ha, hk⟩ := hb
    unfold Dec.run
    by_cases h : (x.sides W H).2 = true
    · rw [if_pos h, (led_sides_yes h).1]
      exact ih _ _ hk hx hy
    · rw [if_neg h]
      have h' : (x.sides W H).2 = false := by simpa using h
      obtain ⟨h1, h2⟩ := led_sides_no h' hx
      exact .inl ⟨a, ha, rfl, h1, h2.trans hy⟩
  | take n a k ih =>
    intro b x hb hx hy
    obtain ⟨rfl, ha, hk⟩ := hb
    unfold Dec.run
    by_cases h : (x.take n).2 = true
    · rw [if_pos h]
      obtain ⟨_, h2, h3, _⟩ := led_take_yes h
      exact ih _ _ hk h2 (by rw [h3]; omega)
    · rw [if_neg h]
      have h' : (x.take n).2 = false := by simpa using h
      obtain ⟨h1, h2⟩ := led_take_no h' hx
      exact .inl ⟨a, ha, rfl, h1, h2.trans hy⟩
  | give n k ih =>
    intro b x hb hx hy
    obtain ⟨hn, hk⟩ := hb
    unfold Dec.run
    rw [led_give_yes (by omega) (by omega)]
    exact ih _ _ hk hx (by simp only; omega)
  | hold n fr a k ih =>
    intro b x hb hx hy
    obtain ⟨rfl, ha, hk⟩ := hb
    unfold Dec.run
    by_cases h : (x.take n).2 = true
    · rw [if_pos h]
      obtain ⟨_, h2, h3, _⟩ := led_take_yes h
      exact ih _ _ hk h2 (by rw [h3]; omega)
    · rw [if_neg h]
      have h' : (x.take n).2 = false := by simpa using h
      obtain ⟨h1, h2⟩ := led_take_no h' hx
      refine .inl ⟨a, ha, rfl, ?_⟩
      rw [led_give_yes (by omega) (by omega)]
      exact ⟨h1, by simp only; omega⟩

/-- a budget that is enough refuses nothing -/
theorem Dec.run_enough (d : Dec) : ∀ (x : Led) (e b : Nat), x.reason = 0 → d.bal e b → x.bytes = (b : Int) → d.may x.B x.W x.H → x.steps + d.cost ≤ x.S →
    (d.run x).2 = d.told ∧ (d.run x).1.reason = 0 := by
  induction d with
  | fin r => intro x e b hx _ _ _ _; exact ⟨rfl, hx⟩
  | work n fr a k ih =>
    intro x e b hx hb hy hm hc
    obtain ⟨rfl, ha, hk⟩ := hb
    obtain ⟨hn, hm⟩ := hm
    unfold Dec.cost at hc
    have h : (x.work n).2 = true := by
      unfold Led.work
      rw [if_neg (by simpa using hx), if_neg (by omega)]
    unfold Dec.run
    rw [if_pos h]
    obtain ⟨_, h2, h3, _, h4, h5, h6, h7, h8⟩ := led_work_yes h
    exact ih _ e _ h2 hk (h3.trans hy) (by rw [h6, h7, h8]; exact hm) (by rw [h4, h5]; omega)
  | sides W H a k ih =>
    intro x e b hx hb hy hm hc
    obtain ⟨rfl, ha, hk⟩ := hb
    obtain ⟨hw, hh, hm⟩ := hm
    unfold Dec.cost at hc
    have h : (x.sides W H).2 = true := by
      unfold Led.sides
      rw [if_neg (by simpa using hx), if_neg (by omega), if_neg (by omega)]
    unfold Dec.run
    rw [if_pos h, (led_sides_yes h).1]
    exact ih _ e _ hx hk hy hm hc
  | take n a k ih =>
    intro x e b hx hb hy hm hc
    obtain ⟨rfl, ha, hk⟩ := hb
    obtain ⟨hn, hm⟩ := hm
    unfold Dec.cost at hc
    have h : (x.take n).2 = true := by
      unfold Led.take
      rw [if_neg (by simpa using hx), if_neg (by omega)]
    unfold Dec.run
    rw [if_pos h]
    obtain ⟨_, h2, h3, h4, h5, h6, h7, h8⟩ := led_take_yes h
    exact ih _ e _ h2 hk (by rw [h3]; omega) (by rw [h6, h7, h8]; exact hm) (by rw [h4, h5]; exact hc)
  | give n k ih =>
    intro x e b hx hb hy hm hc
    obtain ⟨hn, hk⟩ := hb
    unfold Dec.run
    unfold Dec.cost at hc
    rw [led_give_yes (by omega) (by omega)]
    exact ih _ e _ hx hk (by simp only; omega) hm hc
  | hold n fr a k ih =>
    intro x e b hx hb hy hm hc
    obtain ⟨rfl, ha, hk⟩ := hb
    obtain ⟨hn, hm⟩ := hm
    unfold Dec.cost at hc
    have h : (x.take n).2 = true := by
      unfold Led.take
      rw [if_neg (by simpa using hx), if_neg (by omega)]
    unfold Dec.run
    rw [if_pos h]
    obtain ⟨_, h2, h3, h4, h5, h6, h7, h8⟩ := led_take_yes h
    exact ih _ e _ h2 hk (by rw [h3]; omega) (by rw [h6, h7, h8]; exact hm) (by rw [h4, h5]; exact hc)
end Go.Proofs.YthljhebbblhakaaGreatDoor
namespace Go.Proofs.YthljhebbblhakaaGreatDoor
set_option linter.unusedVariables false

def isBlank (b : Nat) : Bool := decide (b = 32 ∨ (9 ≤ b ∧ b ≤ 13))
def isEnd (b : Nat) : Bool := decide (b = 10 ∨ b = 13)
def isDigit (b : Nat) : Bool := decide (48 ≤ b ∧ b ≤ 57)
/-- how many bytes of blanks and remarks stand at the head; true: within a remark -/
def overN : Bool → List Nat → Nat
  | _, [] => 0
  | true, b :: l => 1 + overN (!isEnd b) l
  | false, b :: l => if b = 35 then 1 + overN true l else if isBlank b then 1 + overN false l else 0
/-- the next value of a number -/
def up (v b : Nat) : Nat := min (10 * v + b - 48) 1000000000
/-- how many digits stand at the head -/
def digN : List Nat → Nat
  | [] => 0
  | b :: l => if isDigit b then 1 + digN l else 0
def digV : Nat → List Nat → Nat
  | v, [] => v
  | v, b :: l => if isDigit b then digV (up v b) l else v

/-- what is read: a value, its place, the place behind it; or a fault's kind and place -/
structure Got where
  V : Nat
  At : Nat
  Next : Nat
  Kind : Nat
  Place : Nat
deriving DecidableEq
def numberAt (l : List Nat) (at_ : Nat) : Got :=
  let f := at_ + overN false (l.drop at_)
  if l.length ≤ f then ⟨0, 0, 0, 1, l.length⟩ else if isDigit (l.getD f 0) then ⟨digV 0 (l.drop f), f, f + digN (l.drop f), 0, 0⟩ else ⟨0, 0, 0, 2, f⟩
def digitAt (l : List Nat) (at_ : Nat) : Got :=
  let f := at_ + overN false (l.drop at_)
  if l.length ≤ f then ⟨0, 0, 0, 1, l.length⟩ else if l.getD f 0 = 48 ∨ l.getD f 0 = 49 then ⟨l.getD f 0 - 48, f, f + 1, 0, 0⟩ else ⟨0, 0, 0, 2, f⟩

theorem overN_le (r : Bool) (l : List Nat) : overN r l ≤ l.length := by
  induction l generalizing r with
  | nil => cases r <;> simp [overN]
  | cons b l ih =>
    cases r
    · simp only [overN]
      split
      · have := ih true
        simp only [List.length_cons]; omega
      · split
        · have := ih false
          simp only [List.length_cons]; omega
        · omega
    · simp only [overN, List.length_cons]
      have := ih (!isEnd b)
      omega
theorem digN_le (l : List Nat) : digN l ≤ l.length := by
  induction l with
  | nil => simp [digN]
  | cons b l ih =>
    simp only [digN, List.length_cons]
    split <;> omega

/-- the list from a place on, where there is a byte -/
theorem drop_at {l : List Nat} {q : Nat} (h : q < l.length) : l.drop q = l.getD q 0 :: l.drop (q + 1) := by
  rw [List.drop_eq_getElem_cons h]
  simp [List.getD_eq_getElem?_getD, List.getElem?_eq_getElem h]

section
variable {l : List Nat} {q : Nat}
theorem over_remark (h : q < l.length) : overN true (l.drop q) = 1 + overN (!isEnd (l.getD q 0)) (l.drop (q + 1)) := by rw [drop_at h]; rfl
theorem over_end (r : Bool) (h : l.length ≤ q) : overN r (l.drop q) = 0 := by rw [List.drop_eq_nil_of_le h]; cases r <;> rfl
theorem over_hash (h : q < l.length) (hb : l.getD q 0 = 35) : overN false (l.drop q) = 1 + overN true (l.drop (q + 1)) := by rw [drop_at h]; simp only [overN]; rw [if_pos hb]
theorem over_blank (h : q < l.length) (hb : isBlank (l.getD q 0) = true) : overN false (l.drop q) = 1 + overN false (l.drop (q + 1)) := by
  rw [drop_at h]
  simp only [overN]
  have : l.getD q 0 ≠ 35 := by unfold isBlank at hb; simp at hb; simp; omega
  rw [if_neg this, if_pos hb]
theorem over_stop (h : q < l.length) (h35 : l.getD q 0 ≠ 35) (hb : isBlank (l.getD q 0) = false) : overN false (l.drop q) = 0 := by
  rw [drop_at h]
  simp only [overN]
  rw [if_neg h35, if_neg (by simpa using hb)]
theorem dig_end (h : l.length ≤ q) (v : Nat) : digN (l.drop q) = 0 ∧ digV v (l.drop q) = v := by rw [List.drop_eq_nil_of_le h]; exact ⟨rfl, rfl⟩
theorem dig_yes (h : q < l.length) (hb : isDigit (l.getD q 0) = true) (v : Nat) : digN (l.drop q) = 1 + digN (l.drop (q + 1)) ∧ digV v (l.drop q) = digV (up v (l.getD q 0)) (l.drop (q + 1)) := by
  rw [drop_at h]
  simp only [digN, digV]
  rw [if_pos hb, if_pos hb]
  exact ⟨rfl, rfl⟩
theorem dig_no (h : q < l.length) (hb : isDigit (l.getD q 0) = false) (v : Nat) : digN (l.drop q) = 0 ∧ digV v (l.drop q) = v := by
  rw [drop_at h]
  simp only [digN, digV]
  rw [if_neg (by simpa using hb), if_neg (by simpa using hb)]
  exact ⟨rfl, rfl⟩
end

theorem up_lt (v b : Nat) : up v b ≤ 1000000000 := Nat.min_le_right _ _
theorem digV_le {v : Nat} (l : List Nat) (hv : v ≤ 1000000000) : digV v l ≤ 1000000000 := by
  induction l generalizing v with
  | nil => exact hv
  | cons b l ih =>
    simp only [digV]
    split
    · exact ih (up_lt _ _)
    · exact hv
end Go.Proofs.YthljhebbblhakaaGreatDoor
namespace Go.Proofs.YthljhebbblhakaaGreatDoor
set_option linter.unusedVariables false

/-- a head's number: a value and the place behind it, or a fault's kind and place -/
def hnum (l : List Nat) (a most above : Nat) : Got :=
  let x := numberAt l a
  if x.Kind ≠ 0 then ⟨0, 0, 0, x.Kind, x.Place⟩ else if x.V = 0 then ⟨0, 0, 0, 2, x.At⟩ else if most < x.V then ⟨0, 0, 0, above, x.At⟩ else ⟨x.V, 0, x.Next, 0, 0⟩
/-- a head: kind, sides, the greatest sample, its end; or a fault's kind and place -/
structure HeadR where
  K : Nat
  W : Nat
  H : Nat
  M : Nat
  At : Nat
  Kind : Nat
  Place : Nat
def hbad (kd pl : Nat) : HeadR := ⟨0, 0, 0, 0, 0, kd, pl⟩
/-- the end behind the numbers -/
def hfin (l : List Nat) (K W H M at_ : Nat) : HeadR :=
  if 4 ≤ K then (if l.length ≤ at_ then hbad 1 l.length else if isBlank (l.getD at_ 0) = true then ⟨K, W, H, M, at_ + 1, 0, 0⟩ else hbad 2 at_) else ⟨K, W, H, M, at_, 0, 0⟩
def hmost (l : List Nat) (K W H at_ : Nat) : HeadR :=
  if K = 1 ∨ K = 4 then hfin l K W H 1 at_ else
  let c := hnum l at_ 65535 2
  if c.Kind ≠ 0 then hbad c.Kind c.Place else hfin l K W H c.V c.Next
def hrest2 (l : List Nat) (K W at_ : Nat) : HeadR :=
  let b := hnum l at_ 16384 3
  if b.Kind ≠ 0 then hbad b.Kind b.Place else hmost l K W b.V b.Next
def hrest1 (l : List Nat) (K at_ : Nat) : HeadR :=
  let a := hnum l at_ 16384 3
  if a.Kind ≠ 0 then hbad a.Kind a.Place else hrest2 l K a.V a.Next
def hsides (l : List Nat) (K : Nat) : HeadR := hrest1 l K 2
def headAt (l : List Nat) : HeadR :=
  if l.length < 1 then hbad 1 0 else if l.getD 0 0 ≠ 80 then hbad 2 0 else if l.length < 2 then hbad 1 1 else if l.getD 1 0 < 49 ∨ 54 < l.getD 1 0 then hbad 2 1 else hsides l (l.getD 1 0 - 48)

theorem numberAt_or (l : List Nat) (a : Nat) (ha : a ≤ l.length) : (∃ kd pl, numberAt l a = ⟨0, 0, 0, kd, pl⟩ ∧ kd ≠ 0 ∧ kd ≤ 2 ∧ pl ≤ l.length) ∨ (∃ V f n, numberAt l a = ⟨V, f, n, 0, 0⟩ ∧ n ≤ l.length ∧ V ≤ 1000000000 ∧ a ≤ n ∧ f ≤ n) := by
  unfold numberAt
  simp only
  have h1 := overN_le false (l.drop a)
  rw [List.length_drop] at h1
  split
  · exact .inl ⟨1, l.length, rfl, by decide, by decide, Nat.le_refl _⟩
  · split
    · have h2 := digN_le (l.drop (a + overN false (l.drop a)))
      rw [List.length_drop] at h2
      exact .inr ⟨_, _, _, rfl, by omega, digV_le _ (Nat.zero_le _), by omega, by omega⟩
    · exact .inl ⟨2, _, rfl, by decide, by decide, by omega⟩
/-- the ways of a head's number -/
inductive HNum (l : List Nat) (a most above : Nat) : Prop
  | bad (kd pl : Nat) (h : numberAt l a = ⟨0, 0, 0, kd, pl⟩) (q : hnum l a most above = ⟨0, 0, 0, kd, pl⟩) (h0 : kd ≠ 0) (h2 : kd ≤ 2) (hp : pl ≤ l.length)
  | zero (f n : Nat) (h : numberAt l a = ⟨0, f, n, 0, 0⟩) (q : hnum l a most above = ⟨0, 0, 0, 2, f⟩) (hp : f ≤ l.length)
  | above (V f n : Nat) (h : numberAt l a = ⟨V, f, n, 0, 0⟩) (q : hnum l a most above = ⟨0, 0, 0, above, f⟩) (h0 : V ≠ 0) (hm : most < V) (hp : f ≤ l.length) (hV : V ≤ 1000000000)
  | ok (V f n : Nat) (h : numberAt l a = ⟨V, f, n, 0, 0⟩) (q : hnum l a most above = ⟨V, 0, n, 0, 0⟩) (h0 : V ≠ 0) (hm : V ≤ most) (hn : n ≤ l.length) (han : a ≤ n) (hp : f ≤ l.length)
theorem hnum_or (l : List Nat) (a most above : Nat) (ha : a ≤ l.length) : HNum l a most above := by
  rcases numberAt_or l a ha with ⟨kd, pl, h, h0, h2, hp⟩ | ⟨V, f, n, h, hn, hV, han, hf⟩
  · refine .bad kd pl h ?_ h0 h2 hp
    unfold hnum
    simp only [h]
    rw [if_pos h0]
  · by_cases h0 : V = 0
    · subst h0
      refine .zero f n h ?_ (by omega)
      unfold hnum
      simp only [h]
      rfl
    · by_cases hm : most < V
      · refine .above V f n h ?_ h0 hm (by omega) hV
        unfold hnum
        simp only [h]
        rw [if_neg (by simp), if_neg h0, if_pos hm]
      · refine .ok V f n h ?_ h0 (by omega) hn han (by omega)
        unfold hnum
        simp only [h]
        rw [if_neg (by simp), if_neg h0, if_neg hm]


end Go.Proofs.YthljhebbblhakaaGreatDoor
