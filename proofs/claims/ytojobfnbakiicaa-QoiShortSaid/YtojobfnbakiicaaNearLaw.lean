/- Plain: the nearest of several colours, the first of several. -/
namespace Go.Proofs.Ytojobfnbakiicaa
set_option linter.unusedVariables false

/-- a colour's channels -/
structure Col where
  r : Int
  g : Int
  b : Int
  a : Int
deriving DecidableEq
def Col.ok (c : Col) : Prop := (0 ≤ c.r ∧ c.r ≤ 255) ∧ (0 ≤ c.g ∧ c.g ≤ 255) ∧ (0 ≤ c.b ∧ c.b ≤ 255) ∧ (0 ≤ c.a ∧ c.a ≤ 255)
def sq (x : Int) : Int := x * x
def cdist (x y : Col) : Int := sq (x.r - y.r) + sq (x.g - y.g) + sq (x.b - y.b) + sq (x.a - y.a)
def nocol : Col := ⟨0, 0, 0, 0⟩

theorem sq_range {x y : Int} (hx : 0 ≤ x ∧ x ≤ 255) (hy : 0 ≤ y ∧ y ≤ 255) : 0 ≤ sq (x - y) ∧ sq (x - y) ≤ 65025 := by
  unfold sq
  refine ⟨?_, ?_⟩
  · rcases Int.le_total 0 (x - y) with h | h
    · exact Int.mul_nonneg h h
    · exact Int.mul_nonneg_of_nonpos_of_nonpos h h
  · rcases Int.le_total 0 (x - y) with h | h
    · exact Int.le_trans (Int.mul_le_mul (show x - y ≤ 255 by omega) (show x - y ≤ 255 by omega) h (by omega)) (by omega)
    · have : (x - y) * (x - y) = (y - x) * (y - x) := by rw [← Int.neg_sub y x, Int.neg_mul_neg]
      rw [this]
      exact Int.le_trans (Int.mul_le_mul (show y - x ≤ 255 by omega) (show y - x ≤ 255 by omega) (by omega) (by omega)) (by omega)

theorem cdist_range {x y : Col} (hx : x.ok) (hy : y.ok) : 0 ≤ cdist x y ∧ cdist x y ≤ 260100 := by
  obtain ⟨a, b, c, d⟩ := hx
  obtain ⟨a', b', c', d'⟩ := hy
  have h1 := sq_range a a'
  have h2 := sq_range b b'
  have h3 := sq_range c c'
  have h4 := sq_range d d'
  unfold cdist
  omega

/-- the best of the first k -/
def near (cl : List Col) (c : Col) : Nat → Nat
  | 0 => 0
  | k + 1 => if k = 0 then 0 else if cdist (cl.getD k nocol) c < cdist (cl.getD (near cl c k) nocol) c then k else near cl c k

theorem near_lt (cl : List Col) (c : Col) (k : Nat) : near cl c (k + 1) < k + 1 := by
  induction k with
  | zero => simp [near]
  | succ k ih =>
    rw [near, if_neg (by omega)]
    split <;> omega
theorem near_le (cl : List Col) (c : Col) (k : Nat) : near cl c k ≤ k := by
  cases k with
  | zero => simp [near]
  | succ k => have := near_lt cl c k; omega

theorem near_best (cl : List Col) (c : Col) (k : Nat) : ∀ j, j < k → cdist (cl.getD (near cl c k) nocol) c ≤ cdist (cl.getD j nocol) c ∧ (cdist (cl.getD j nocol) c = cdist (cl.getD (near cl c k) nocol) c → near cl c k ≤ j) := by
  induction k with
  | zero => intro j hj; omega
  | succ k ih =>
    intro j hj
    by_cases h0 : k = 0
    · subst h0
      obtain rfl : j = 0 := by omega
      simp [near]
    · rw [near, if_neg h0]
      split
      · rename_i hlt
        rcases Nat.lt_succ_iff_lt_or_eq.1 hj with h | rfl
        · have := (ih j h).1
          exact ⟨by omega, fun e => by omega⟩
        · exact ⟨Int.le_refl _, fun _ => Nat.le_refl _⟩
      · rename_i hge
        rcases Nat.lt_succ_iff_lt_or_eq.1 hj with h | rfl
        · exact ih j h
        · exact ⟨by omega, fun _ => near_le _ _ _⟩
end Go.Proofs.Ytojobfnbakiicaa
