/- Plain: a row's packets by runs of equal bytes. -/
namespace Go.Proofs.YtccldalagbfmhaaGreat
set_option linter.unusedVariables false

/-- how many of the first bytes are x, at most m -/
def runOf (x : UInt8) : Nat → List UInt8 → Nat
  | 0, _ => 0
  | _ + 1, [] => 0
  | m + 1, y :: t => if y = x then runOf x m t + 1 else 0

/-- n is the length of the run at the list's head, at most m -/
structure IsRun (m : Nat) (l : List UInt8) (n : Nat) : Prop where
  pos : 1 ≤ n
  le : n ≤ m
  len : n ≤ l.length
  same : ∀ j, j < n → l[j]? = l[0]?
  stop : n < m → n < l.length → l[n]? ≠ l[0]?

theorem runOf_spec (x : UInt8) (m : Nat) (l : List UInt8) : runOf x m l ≤ m ∧ runOf x m l ≤ l.length ∧ (∀ j, j < runOf x m l → l[j]? = some x) ∧ (runOf x m l < m → runOf x m l < l.length → l[runOf x m l]? ≠ some x) := by
  induction m generalizing l with
  | zero => simp [runOf]
  | succ m ih =>
    cases l with
    | nil => simp [runOf]
    | cons y t =>
      obtain ⟨a, b, c, d⟩ := ih t
      by_cases h : y = x
      · simp only [runOf, if_pos h]
        refine ⟨by omega, by simp; omega, fun j hj => ?_, fun h1 h2 => ?_⟩
        · cases j with
          | zero => simp [h]
          | succ j => simpa using c j (by omega)
        · simpa using d (by omega) (by simpa using h2)
      · simp only [runOf, if_neg h]
        refine ⟨by omega, by simp, fun j hj => by omega, fun _ _ => by simpa using h⟩

theorem isRun_unique {m : Nat} {l : List UInt8} {n k : Nat} (a : IsRun m l n) (b : IsRun m l k) : n = k := by
  rcases Nat.lt_trichotomy n k with h | h | h
  · exact absurd (b.same n h) (a.stop (by have := b.le; omega) (by have := b.len; omega))
  · exact h
  · exact absurd (a.same k h) (b.stop (by have := a.le; omega) (by have := a.len; omega))

theorem isRun_of (x : UInt8) (m : Nat) (t : List UInt8) : IsRun (m + 1) (x :: t) (runOf x m t + 1) := by
  obtain ⟨a, b, c, d⟩ := runOf_spec x m t
  refine ⟨by omega, by omega, by simp; omega, fun j hj => ?_, fun h1 h2 => ?_⟩
  · cases j with
    | zero => rfl
    | succ j => simpa using c j (by omega)
  · simpa using d (by omega) (by simpa using h2)

/-- one packet of PCX -/
def pcxHead (n : Nat) (x : UInt8) : List UInt8 := if 1 < n ∨ 192 ≤ x.toNat then [UInt8.ofNat (192 + n), x] else [x]
def pcxF : Nat → List UInt8 → List UInt8
  | 0, _ => []
  | _ + 1, [] => []
  | f + 1, x :: t => pcxHead (runOf x 62 t + 1) x ++ pcxF f (t.drop (runOf x 62 t))
def pcxPack (l : List UInt8) : List UInt8 := pcxF l.length l

theorem pcxF_more (f : Nat) : ∀ (g : Nat) (l : List UInt8), l.length ≤ f → l.length ≤ g → pcxF f l = pcxF g l := by
  induction f with
  | zero =>
    intro g l h _
    cases l with
    | nil => cases g <;> rfl
    | cons => simp at h
  | succ f ih =>
    intro g l h hg
    cases l with
    | nil => cases g <;> rfl
    | cons x t =>
      cases g with
      | zero => simp at hg
      | succ g =>
        simp only [pcxF]
        rw [ih g _ (by simp at h ⊢; omega) (by simp at hg ⊢; omega)]

theorem pcxPack_nil : pcxPack [] = [] := rfl
theorem pcxPack_cons {l : List UInt8} {n : Nat} {x : UInt8} (h : IsRun 63 l n) (hx : l[0]? = some x) : pcxPack l = pcxHead n x ++ pcxPack (l.drop n) := by
  cases l with
  | nil => simp at hx
  | cons y t =>
    obtain rfl : y = x := by simpa using hx
    obtain rfl := isRun_unique h (isRun_of y 62 t)
    show pcxF (t.length + 1) (y :: t) = _
    simp only [pcxF, List.drop_succ_cons, pcxPack]
    rw [pcxF_more t.length (t.drop (runOf y 62 t)).length _ (by simp) (by omega)]

theorem pcxHead_len (n : Nat) (x : UInt8) : (pcxHead n x).length ≤ 2 ∧ 1 ≤ (pcxHead n x).length := by unfold pcxHead; split <;> simp
theorem pcxPack_len (k : Nat) : ∀ l : List UInt8, l.length ≤ k → (pcxPack l).length ≤ 2 * l.length := by
  induction k with
  | zero => intro l h; cases l with | nil => simp [pcxPack_nil] | cons => simp at h
  | succ k ih =>
    intro l h
    cases l with
    | nil => simp [pcxPack_nil]
    | cons x t =>
      have hr := isRun_of x 62 t
      rw [pcxPack_cons hr (x := x) rfl, List.length_append]
      have := ih ((x :: t).drop (runOf x 62 t + 1)) (by simp at h ⊢; omega)
      have h2 := (pcxHead_len (runOf x 62 t + 1) x).1
      have h3 := hr.len
      rw [List.length_drop] at this
      simp at *
      omega
theorem pcxPack_awake : pcxPack [10, 10, 10, 197] = [195, 10, 193, 197] := by decide

/-- one packet of SUN -/
def sunPkHead (n : Nat) (x : UInt8) : List UInt8 :=
  if 2 < n ∨ (n = 2 ∧ x = 128) then [128, UInt8.ofNat (n - 1), x] else if x = 128 then [128, 0] else List.replicate n x
def sunF : Nat → List UInt8 → List UInt8
  | 0, _ => []
  | _ + 1, [] => []
  | f + 1, x :: t => sunPkHead (runOf x 255 t + 1) x ++ sunF f (t.drop (runOf x 255 t))
def sunPack (l : List UInt8) : List UInt8 := sunF l.length l

theorem sunF_more (f : Nat) : ∀ (g : Nat) (l : List UInt8), l.length ≤ f → l.length ≤ g → sunF f l = sunF g l := by
  induction f with
  | zero =>
    intro g l h _
    cases l with
    | nil => cases g <;> rfl
    | cons => simp at h
  | succ f ih =>
    intro g l h hg
    cases l with
    | nil => cases g <;> rfl
    | cons x t =>
      cases g with
      | zero => simp at hg
      | succ g =>
        simp only [sunF]
        rw [ih g _ (by simp at h ⊢; omega) (by simp at hg ⊢; omega)]

theorem sunPack_nil : sunPack [] = [] := rfl
theorem sunPack_cons {l : List UInt8} {n : Nat} {x : UInt8} (h : IsRun 256 l n) (hx : l[0]? = some x) : sunPack l = sunPkHead n x ++ sunPack (l.drop n) := by
  cases l with
  | nil => simp at hx
  | cons y t =>
    obtain rfl : y = x := by simpa using hx
    obtain rfl := isRun_unique h (isRun_of y 255 t)
    show sunF (t.length + 1) (y :: t) = _
    simp only [sunF, List.drop_succ_cons, sunPack]
    rw [sunF_more t.length (t.drop (runOf y 255 t)).length _ (by simp) (by omega)]
theorem sunPkHead_len (n : Nat) (x : UInt8) (h : 1 ≤ n) : (sunPkHead n x).length ≤ 2 * n := by
  unfold sunPkHead
  split
  · rename_i h'; simp; omega
  · split <;> simp <;> omega
theorem sunPack_awake : sunPack [10, 10, 10, 128] = [128, 2, 10, 128, 0] := by decide
/-- the run's bytes themselves -/
theorem run_take {m n : Nat} {l : List UInt8} {x : UInt8} (h : IsRun m l n) (hx : l[0]? = some x) : l.take n = List.replicate n x := by
  refine List.eq_replicate_iff.2 ⟨by rw [List.length_take]; have := h.len; omega, fun b hb => ?_⟩
  obtain ⟨j, hj, rfl⟩ := List.mem_iff_getElem.1 hb
  have hj' : j < n := by rw [List.length_take] at hj; omega
  have e := h.same j hj'
  rw [hx] at e
  have e2 : (l.take n)[j]? = l[j]? := by rw [List.getElem?_take, if_pos hj']
  rw [List.getElem?_eq_getElem hj] at e2
  rw [e] at e2
  exact Option.some.inj e2
/-- the plain way's bytes: each, and a nought behind each mark -/
def sunPkPlain (n : Nat) (x : UInt8) : List UInt8 := (List.replicate n (if x = 128 then [128, 0] else [x])).flatten
theorem sunPkPlain_succ (n : Nat) (x : UInt8) : sunPkPlain (n + 1) x = sunPkPlain n x ++ (if x = 128 then [128, 0] else [x]) := by
  unfold sunPkPlain
  rw [List.replicate_succ', List.flatten_append]
  simp
theorem sunPkPlain_len (n : Nat) (x : UInt8) : (sunPkPlain n x).length ≤ 2 * n := by
  induction n with
  | zero => simp [sunPkPlain]
  | succ n ih => rw [sunPkPlain_succ, List.length_append]; split <;> simp <;> omega
theorem sunPkHead_plain {n : Nat} {x : UInt8} (h1 : 1 ≤ n) (h : ¬ (2 < n ∨ (n = 2 ∧ x = 128))) : sunPkHead n x = sunPkPlain n x := by
  rw [sunPkHead, if_neg h]
  by_cases hx : x = 128
  · obtain rfl : n = 1 := by
      rcases Nat.lt_or_ge n 2 with g | g
      · omega
      · exact absurd (by rcases Nat.lt_or_ge 2 n with g' | g'
                         · exact .inl g'
                         · exact .inr ⟨by omega, hx⟩) h
    rw [if_pos hx, hx]
    rfl
  · rw [if_neg hx]
    unfold sunPkPlain
    rw [if_neg hx]
    clear h h1
    induction n with
    | zero => rfl
    | succ n ih => rw [List.replicate_succ, List.replicate_succ, List.flatten_cons, ← ih]; rfl
end Go.Proofs.YtccldalagbfmhaaGreat
