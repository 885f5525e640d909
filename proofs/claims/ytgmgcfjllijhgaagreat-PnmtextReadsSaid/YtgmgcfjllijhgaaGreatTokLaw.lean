/- Plain: blanks, remarks and numbers in a text. -/
namespace Go.Proofs.YtgmgcfjllijhgaaGreat
set_option linter.unusedVariables false

def isBlank (b : Nat) : Bool := decide (b = 32 ∨ (9 ≤ b ∧ b ≤ 13))
def isEnd (b : Nat) : Bool := decide (b = 10 ∨ b = 13)
def isDigit (b : Nat) : Bool := decide (48 ≤ b ∧ b ≤ 57)
/-- how many bytes of blanks and remarks stand at the head; true: within a remark -/
def overN : Bool → List Nat → Nat
  | _, [] => 0
  | true, b :: l => 1 + overN (!isEnd b) l
  | false, b :: l => if b = 35 then 1 + overN true l else if isBlank b then 1 + overN false l else 0
/-- the next value of a number -/
def up (v b : Nat) : Nat := min (10 * v + b - 48) 1000000000
/-- how many digits stand at the head -/
def digN : List Nat → Nat
  | [] => 0
  | b :: l => if isDigit b then 1 + digN l else 0
def digV : Nat → List Nat → Nat
  | v, [] => v
  | v, b :: l => if isDigit b then digV (up v b) l else v

/-- what is read: a value, its place, the place behind it; or a fault's kind and place -/
structure Got where
  V : Nat
  At : Nat
  Next : Nat
  Kind : Nat
  Place : Nat
deriving DecidableEq
def numberAt (l : List Nat) (at_ : Nat) : Got :=
  let f := at_ + overN false (l.drop at_)
  if l.length ≤ f then ⟨0, 0, 0, 1, l.length⟩ else if isDigit (l.getD f 0) then ⟨digV 0 (l.drop f), f, f + digN (l.drop f), 0, 0⟩ else ⟨0, 0, 0, 2, f⟩
def digitAt (l : List Nat) (at_ : Nat) : Got :=
  let f := at_ + overN false (l.drop at_)
  if l.length ≤ f then ⟨0, 0, 0, 1, l.length⟩ else if l.getD f 0 = 48 ∨ l.getD f 0 = 49 then ⟨l.getD f 0 - 48, f, f + 1, 0, 0⟩ else ⟨0, 0, 0, 2, f⟩

theorem overN_le (r : Bool) (l : List Nat) : overN r l ≤ l.length := by
  induction l generalizing r with
  | nil => cases r <;> simp [overN]
  | cons b l ih =>
    cases r
    · simp only [overN]
      split
      · have := ih true
        simp only [List.length_cons]; omega
      · split
        · have := ih false
          simp only [List.length_cons]; omega
        · omega
    · simp only [overN, List.length_cons]
      have := ih (!isEnd b)
      omega
theorem digN_le (l : List Nat) : digN l ≤ l.length := by
  induction l with
  | nil => simp [digN]
  | cons b l ih =>
    simp only [digN, List.length_cons]
    split <;> omega

/-- the list from a place on, where there is a byte -/
theorem drop_at {l : List Nat} {q : Nat} (h : q < l.length) : l.drop q = l.getD q 0 :: l.drop (q + 1) := by
  rw [List.drop_eq_getElem_cons h]
  simp [List.getD_eq_getElem?_getD, List.getElem?_eq_getElem h]

section
variable {l : List Nat} {q : Nat}
theorem over_remark (h : q < l.length) : overN true (l.drop q) = 1 + overN (!isEnd (l.getD q 0)) (l.drop (q + 1)) := by rw [drop_at h]; rfl
theorem over_end (r : Bool) (h : l.length ≤ q) : overN r (l.drop q) = 0 := by rw [List.drop_eq_nil_of_le h]; cases r <;> rfl
theorem over_hash (h : q < l.length) (hb : l.getD q 0 = 35) : overN false (l.drop q) = 1 + overN true (l.drop (q + 1)) := by rw [drop_at h]; simp only [overN]; rw [if_pos hb]
theorem over_blank (h : q < l.length) (hb : isBlank (l.getD q 0) = true) : overN false (l.drop q) = 1 + overN false (l.drop (q + 1)) := by
  rw [drop_at h]
  simp only [overN]
  have : l.getD q 0 ≠ 35 := by unfold isBlank at hb; simp at hb; simp; omega
  rw [if_neg this, if_pos hb]
theorem over_stop (h : q < l.length) (h35 : l.getD q 0 ≠ 35) (hb : isBlank (l.getD q 0) = false) : overN false (l.drop q) = 0 := by
  rw [drop_at h]
  simp only [overN]
  rw [if_neg h35, if_neg (by simpa using hb)]
theorem dig_end (h : l.length ≤ q) (v : Nat) : digN (l.drop q) = 0 ∧ digV v (l.drop q) = v := by rw [List.drop_eq_nil_of_le h]; exact ⟨rfl, rfl⟩
theorem dig_yes (h : q < l.length) (hb : isDigit (l.getD q 0) = true) (v : Nat) : digN (l.drop q) = 1 + digN (l.drop (q + 1)) ∧ digV v (l.drop q) = digV (up v (l.getD q 0)) (l.drop (q + 1)) := by
  rw [drop_at h]
  simp only [digN, digV]
  rw [if_pos hb, if_pos hb]
  exact ⟨rfl, rfl⟩
theorem dig_no (h : q < l.length) (hb : isDigit (l.getD q 0) = false) (v : Nat) : digN (l.drop q) = 0 ∧ digV v (l.drop q) = v := by
  rw [drop_at h]
  simp only [digN, digV]
  rw [if_neg (by simpa using hb), if_neg (by simpa using hb)]
  exact ⟨rfl, rfl⟩
end

/-- blanks that end in no remark -/
def overR : Bool → List Nat → Bool
  | r, [] => r
  | true, b :: l => overR (!isEnd b) l
  | false, b :: l => if b = 35 then overR true l else overR false l
theorem over_append (r : Bool) (l m : List Nat) (h : overN r l = l.length) : overN r (l ++ m) = l.length + overN (overR r l) m := by
  induction l generalizing r with
  | nil => cases r <;> simp [overR]
  | cons b l ih =>
    cases r
    · simp only [overN, List.cons_append, overR, List.length_cons] at h ⊢
      split
      · rename_i hb
        rw [if_pos hb] at h
        rw [ih true (by omega)]
        omega
      · rename_i hb
        rw [if_neg hb] at h
        split
        · rename_i hc
          rw [if_pos hc] at h
          rw [ih false (by omega)]
          omega
        · rename_i hc
          rw [if_neg hc] at h
          omega
    · simp only [overN, List.cons_append, overR, List.length_cons] at h ⊢
      rw [ih _ (by omega)]
      omega
theorem overR_append (r : Bool) (l m : List Nat) : overR r (l ++ m) = overR (overR r l) m := by
  induction l generalizing r with
  | nil => cases r <;> simp [overR]
  | cons b l ih =>
    cases r
    · simp only [overR, List.cons_append]
      split <;> exact ih _
    · simp only [overR, List.cons_append]
      exact ih _
theorem overR_newline (r : Bool) (l : List Nat) : overR r (l ++ [10]) = false := by
  rw [overR_append]
  cases overR r l <;> rfl
/-- behind blanks and a line's end all is as from the beginning -/
theorem over_blanks (bl s : List Nat) (h : overN false (bl ++ [10]) = bl.length + 1) : overN false (bl ++ [10] ++ s) = bl.length + 1 + overN false s := by
  rw [over_append _ _ _ (by simpa using h), overR_newline]
  simp
theorem up_lt (v b : Nat) : up v b ≤ 1000000000 := Nat.min_le_right _ _
theorem digV_le {v : Nat} (l : List Nat) (hv : v ≤ 1000000000) : digV v l ≤ 1000000000 := by
  induction l generalizing v with
  | nil => exact hv
  | cons b l ih =>
    simp only [digV]
    split
    · exact ih (up_lt _ _)
    · exact hv
end Go.Proofs.YtgmgcfjllijhgaaGreat
