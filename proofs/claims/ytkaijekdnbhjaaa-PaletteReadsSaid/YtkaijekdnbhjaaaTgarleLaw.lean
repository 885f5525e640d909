/- Plain: packets of pixels (texts), by runs and by stretches without a pair; and back. -/
namespace Go.Proofs.Ytkaijekdnbhjaaa
set_option linter.unusedVariables false

set_option linter.unusedSectionVars false
section
variable {α : Type} [DecidableEq α]

/-- n is the length of the run at the list's head, at most m -/
structure Run (m : Nat) (l : List α) (n : Nat) : Prop where
  pos : 1 ≤ n
  le : n ≤ m
  len : n ≤ l.length
  same : ∀ j, j < n → l[j]? = l[0]?
  stop : n < m → n < l.length → l[n]? ≠ l[0]?

/-- a pair stands at j -/
def Pair (l : List α) (j : Nat) : Prop := j + 1 < l.length ∧ l[j]? = l[j + 1]?

/-- n is the length of the stretch at the list's head: behind its first no pair begins in it; at most m -/
structure Lone (m : Nat) (l : List α) (n : Nat) : Prop where
  pos : 1 ≤ n
  le : n ≤ m
  len : n ≤ l.length
  no : ∀ j, 1 ≤ j → j < n → ¬ Pair l j
  stop : n < m → n < l.length → Pair l n

theorem run_unique {m : Nat} {l : List α} {n k : Nat} (a : Run m l n) (b : Run m l k) : n = k := by
  rcases Nat.lt_trichotomy n k with h | h | h
  · exact absurd (b.same n h) (a.stop (by have := b.le; omega) (by have := b.len; omega))
  · exact h
  · exact absurd (a.same k h) (b.stop (by have := a.le; omega) (by have := a.len; omega))
theorem lone_unique {m : Nat} {l : List α} {n k : Nat} (a : Lone m l n) (b : Lone m l k) : n = k := by
  rcases Nat.lt_trichotomy n k with h | h | h
  · exact absurd (a.stop (by have := b.le; omega) (by have := b.len; omega)) (b.no n a.pos h)
  · exact h
  · exact absurd (b.stop (by have := a.le; omega) (by have := a.len; omega)) (a.no k b.pos h)

/-- the least number from k on that is at the bound, at the end, or fails the test -/
def scan (p : Nat → Bool) : Nat → Nat → Nat
  | 0, k => k
  | f + 1, k => if p k then scan p f (k + 1) else k
theorem scan_spec (p : Nat → Bool) (f k : Nat) : k ≤ scan p f k ∧ scan p f k ≤ k + f ∧ (∀ j, k ≤ j → j < scan p f k → p j = true) ∧ (scan p f k < k + f → p (scan p f k) = false) := by
  induction f generalizing k with
  | zero => exact ⟨Nat.le_refl _, Nat.le_refl _, fun j h1 h2 => by simp only [scan] at h2; omega, fun h => by simp only [scan] at h; omega⟩
  | succ f ih =>
    simp only [scan]
    by_cases hp : p k = true
    · rw [if_pos hp]
      obtain ⟨a, b, c, d⟩ := ih (k + 1)
      refine ⟨by omega, by omega, fun j h1 h2 => ?_, fun h => d (by omega)⟩
      rcases Nat.lt_or_ge k j with h | h
      · exact c j h h2
      · obtain rfl : j = k := by omega
        exact hp
    · rw [if_neg hp]
      exact ⟨Nat.le_refl _, by omega, fun j h1 h2 => by omega, fun _ => by simpa using hp⟩

/-- the run's length at the head -/
def runLen (m : Nat) (l : List α) : Nat := scan (fun j => decide (l[j]? = l[0]?)) (min l.length m - 1) 1
def loneLen (m : Nat) (l : List α) : Nat := scan (fun j => decide (¬ (j + 1 < l.length ∧ l[j]? = l[j + 1]?))) (min l.length m - 1) 1

theorem runLen_run {m : Nat} {l : List α} (hm : 1 ≤ m) (hl : 1 ≤ l.length) : Run m l (runLen m l) := by
  obtain ⟨a, b, c, d⟩ := scan_spec (fun j => decide (l[j]? = l[0]?)) (min l.length m - 1) 1
  refine ⟨a, by unfold runLen; omega, by unfold runLen; omega, fun j hj => ?_, fun h1 h2 => ?_⟩
  · rcases Nat.eq_zero_or_pos j with rfl | h
    · rfl
    · simpa using c j h hj
  · exact of_decide_eq_false (d (by unfold runLen at h1 h2; omega))
theorem loneLen_lone {m : Nat} {l : List α} (hm : 1 ≤ m) (hl : 1 ≤ l.length) : Lone m l (loneLen m l) := by
  obtain ⟨a, b, c, d⟩ := scan_spec (fun j => decide (¬ (j + 1 < l.length ∧ l[j]? = l[j + 1]?))) (min l.length m - 1) 1
  refine ⟨a, by unfold loneLen; omega, by unfold loneLen; omega, fun j h hj => ?_, fun h1 h2 => ?_⟩
  · have := c j h hj
    exact of_decide_eq_true (p := ¬ (j + 1 < l.length ∧ l[j]? = l[j + 1]?)) this
  · have := d (by unfold loneLen at h1 h2; omega)
    exact Decidable.of_not_not (p := (loneLen m l + 1 < l.length ∧ l[loneLen m l]? = l[loneLen m l + 1]?)) (of_decide_eq_false this)
end

abbrev Bytes := List UInt8
theorem len_pos {l : List Bytes} (h : l ≠ []) : 1 ≤ l.length := by cases l <;> simp_all
/-- packets of pixels; the fuel is no less than the list's length -/
def packT : Nat → List Bytes → Bytes
  | 0, _ => []
  | f + 1, l => if l = [] then [] else
    if 1 < runLen 128 l then UInt8.ofNat (127 + runLen 128 l) :: (l.headD [] ++ packT f (l.drop (runLen 128 l)))
    else UInt8.ofNat (loneLen 128 l - 1) :: ((l.take (loneLen 128 l)).flatten ++ packT f (l.drop (loneLen 128 l)))
theorem packT_nil (f : Nat) : packT f [] = [] := by cases f <;> simp [packT]
theorem packT_enough (f k : Nat) (l : List Bytes) (hf : l.length ≤ f) (hk : l.length ≤ k) : packT f l = packT k l := by
  induction f generalizing k l with
  | zero =>
    obtain rfl : l = [] := List.eq_nil_of_length_eq_zero (by omega)
    rw [packT_nil, packT_nil]
  | succ f ih =>
    by_cases hl : l = []
    · subst hl; rw [packT_nil, packT_nil]
    · have h1 := len_pos hl
      cases k with
      | zero => omega
      | succ k =>
        simp only [packT]
        have hr := runLen_run (m := 128) (by omega) h1
        have ho := loneLen_lone (m := 128) (by omega) h1
        have r1 := hr.pos
        have o1 := ho.pos
        rw [ih k (l.drop (runLen 128 l)) (by simp; omega) (by simp; omega), ih k (l.drop (loneLen 128 l)) (by simp; omega) (by simp; omega)]
/-- packets of pixels -/
def packL (l : List Bytes) : Bytes := packT l.length l
theorem packL_nil : packL [] = [] := rfl
theorem packL_run {l : List Bytes} {n : Nat} (h : Run 128 l n) (h1 : 1 < n) : packL l = UInt8.ofNat (127 + n) :: (l.headD [] ++ packL (l.drop n)) := by
  have hl : l ≠ [] := by rintro rfl; have := h.len; simp at this; omega
  have hlen := len_pos hl
  have e := run_unique h (runLen_run (by omega) hlen)
  unfold packL
  obtain ⟨m, hm⟩ : ∃ m, l.length = m + 1 := ⟨l.length - 1, by omega⟩
  rw [hm]
  simp only [packT]
  rw [if_neg hl, ← e, if_pos h1, packT_enough m (l.drop n).length (l.drop n) (by simp; omega) (Nat.le_refl _)]
theorem packL_lone {l : List Bytes} {n : Nat} (hr : Run 128 l 1) (h : Lone 128 l n) : packL l = UInt8.ofNat (n - 1) :: ((l.take n).flatten ++ packL (l.drop n)) := by
  have hl : l ≠ [] := by rintro rfl; have := h.len; have := h.pos; simp at *; omega
  have hlen := len_pos hl
  have hpos := h.pos
  have e := lone_unique h (loneLen_lone (by omega) hlen)
  have e1 := run_unique hr (runLen_run (by omega) hlen)
  unfold packL
  obtain ⟨m, hm⟩ : ∃ m, l.length = m + 1 := ⟨l.length - 1, by omega⟩
  rw [hm]
  simp only [packT]
  rw [if_neg hl, ← e1, if_neg (by omega), ← e, packT_enough m (l.drop n).length (l.drop n) (by simp; omega) (Nat.le_refl _)]

inductive PRes where
  | bad (e : Nat)
  | ok (l : List Bytes) (c : Nat)
def PRes.push (more : List Bytes) (k : Nat) : PRes → PRes
  | .bad e => .bad e
  | .ok l c => .ok (more ++ l) (k + c)
def cnt (b : UInt8) : Nat := b.toNat % 128 + 1
def thr (b : UInt8) : Nat := if b.toNat < 128 then cnt b else 1
/-- the pixels of one packet -/
def pixelsOf (b : UInt8) (s : Bytes) (size : Nat) : List Bytes := (List.range (cnt b)).map fun i => (s.drop (min i (thr b - 1) * size)).take size
/-- the pixels of packets; how many bytes they take -/
def unpack (size : Nat) : Nat → Bytes → Nat → PRes
  | 0, _, _ => .ok [] 0
  | f + 1, s, need => if need = 0 then .ok [] 0 else
    match s with
    | [] => .bad 5
    | b :: s => if need < cnt b then .bad 11 else if s.length < thr b * size then .bad 5 else (unpack size f (s.drop (thr b * size)) (need - cnt b)).push (pixelsOf b s size) (1 + thr b * size)
theorem unpack_enough (size f k : Nat) (s : Bytes) (need : Nat) (hf : need ≤ f) (hk : need ≤ k) : unpack size f s need = unpack size k s need := by
  induction f generalizing k s need with
  | zero =>
    obtain rfl : need = 0 := by omega
    cases k <;> simp [unpack]
  | succ f ih =>
    by_cases hn : need = 0
    · subst hn; cases k <;> simp [unpack]
    · cases k with
      | zero => omega
      | succ k =>
        cases s with
        | nil => simp [unpack]
        | cons b s =>
          simp only [unpack]
          have : 1 ≤ cnt b := by unfold cnt; omega
          rw [ih k _ _ (by omega) (by omega)]
def unpackL (size : Nat) (s : Bytes) (need : Nat) : PRes := unpack size need s need
theorem unpackL_zero (size : Nat) (s : Bytes) : unpackL size s 0 = .ok [] 0 := rfl
theorem unpackL_nil {size need : Nat} (h : 0 < need) : unpackL size [] need = .bad 5 := by
  obtain ⟨m, rfl⟩ : ∃ m, need = m + 1 := ⟨need - 1, by omega⟩
  simp [unpackL, unpack]
theorem unpackL_cons {size need : Nat} (b : UInt8) (s : Bytes) (h : 0 < need) : unpackL size (b :: s) need = if need < cnt b then .bad 11 else if s.length < thr b * size then .bad 5 else (unpackL size (s.drop (thr b * size)) (need - cnt b)).push (pixelsOf b s size) (1 + thr b * size) := by
  obtain ⟨m, rfl⟩ : ∃ m, need = m + 1 := ⟨need - 1, by omega⟩
  have : 1 ≤ cnt b := by unfold cnt; omega
  unfold unpackL
  simp only [unpack]
  rw [unpack_enough size m (m + 1 - cnt b) _ _ (by omega) (Nat.le_refl _)]
  simp

theorem flatten_len {size : Nat} (l : List Bytes) (h : ∀ x ∈ l, x.length = size) : l.flatten.length = l.length * size := by
  induction l with
  | nil => simp
  | cons x l ih =>
    simp only [List.flatten_cons, List.length_append, List.length_cons]
    rw [h x (by simp), ih fun y hy => h y (by simp [hy]), Nat.succ_mul]
    omega
theorem flatten_at {size : Nat} (l : List Bytes) (h : ∀ x ∈ l, x.length = size) (m : Bytes) (i : Nat) (hi : i < l.length) : ((l.flatten ++ m).drop (i * size)).take size = l[i] := by
  induction l generalizing i with
  | nil => simp at hi
  | cons x l ih =>
    have hx := h x (by simp)
    cases i with
    | zero => simp [List.take_append_of_le_length (Nat.le_of_eq hx.symm), List.take_of_length_le (Nat.le_of_eq hx)]
    | succ i =>
      simp only [List.flatten_cons, List.append_assoc, List.getElem_cons_succ]
      have : (i + 1) * size = x.length + i * size := by rw [hx, Nat.succ_mul]; omega
      rw [this, ← List.drop_drop, List.drop_left]
      exact ih (fun y hy => h y (by simp [hy])) i (by simpa using hi)

theorem unpack_pack (size : Nat) (hsz : 0 < size) (n : Nat) (l : List Bytes) (hn : l.length = n) (h : ∀ x ∈ l, x.length = size) (m : Bytes) : unpackL size (packL l ++ m) l.length = .ok l (packL l).length := by
  induction n using Nat.strongRecOn generalizing l with
  | _ n ih =>
    by_cases hl : l = []
    · subst hl; simp [packL_nil, unpackL_zero]
    · have h1 := len_pos hl
      have hr := runLen_run (m := 128) (by omega) h1
      have r0 := hr.pos
      have r1 := hr.le
      have r2 := hr.len
      by_cases hrun : 1 < runLen 128 l
      · generalize hk : runLen 128 l = k at *
        rw [packL_run hr hrun, List.cons_append, unpackL_cons _ _ (by omega)]
        have hb : (UInt8.ofNat (127 + k)).toNat = 127 + k := by simp; omega
        have hc : cnt (UInt8.ofNat (127 + k)) = k := by unfold cnt; rw [hb]; omega
        have ht : thr (UInt8.ofNat (127 + k)) = 1 := by unfold thr; rw [hb, if_neg (by omega)]
        have hh : (l.headD []).length = size := by cases l with | nil => simp at hl | cons x l => exact h x (by simp)
        rw [hc, ht, if_neg (by omega), if_neg (by simp only [List.length_append]; omega)]
        have e : (l.headD [] ++ packL (l.drop k) ++ m).drop (1 * size) = packL (l.drop k) ++ m := by
          rw [Nat.one_mul, List.append_assoc, ← hh, List.drop_left]
        have hi := ih (n - k) (by omega) (l.drop k) (by simp; omega) (fun x hx => h x (List.mem_of_mem_drop hx))
        rw [e, show l.length - k = (l.drop k).length by simp, hi]
        simp only [PRes.push, PRes.ok.injEq]
        refine ⟨?_, ?_⟩
        · refine Eq.trans ?_ (List.take_append_drop k l)
          congr 1
          unfold pixelsOf
          rw [hc, ht]
          apply List.ext_getElem (by simp; omega)
          intro j j1 j2
          have jk : j < k := by simpa using j1
          have es := hr.same j jk
          simp only [List.getElem_map, List.getElem_range, List.getElem_take]
          rw [List.getElem?_eq_getElem (by omega), List.getElem?_eq_getElem (by omega)] at es
          simp only [Option.some.injEq] at es
          rw [es]
          have e0 : min j (1 - 1) * size = 0 := by simp
          rw [e0, List.drop_zero, List.append_assoc]
          cases l with
          | nil => simp at hl
          | cons x l =>
            simp only [List.headD_cons, List.getElem_cons_zero] at hh ⊢
            rw [← hh, List.take_left]
        · simp only [List.length_cons, List.length_append]
          omega
      · have ho := loneLen_lone (m := 128) (by omega) h1
        have o0 := ho.pos
        have o1 := ho.le
        have o2 := ho.len
        have e1 : runLen 128 l = 1 := by omega
        rw [e1] at hr
        generalize hk : loneLen 128 l = k at *
        rw [packL_lone hr ho, List.cons_append, unpackL_cons _ _ (by omega)]
        have hb : (UInt8.ofNat (k - 1)).toNat = k - 1 := by simp; omega
        have hc : cnt (UInt8.ofNat (k - 1)) = k := by unfold cnt; rw [hb]; omega
        have ht : thr (UInt8.ofNat (k - 1)) = k := by unfold thr; rw [hb, if_pos (by omega), hc]
        have hfl : (l.take k).flatten.length = k * size := by
          rw [flatten_len (size := size) _ (fun x hx => h x (List.mem_of_mem_take hx))]
          rw [List.length_take, Nat.min_eq_left o2]
        rw [hc, ht, if_neg (by omega), if_neg (by simp only [List.length_append, hfl]; omega)]
        have e : ((l.take k).flatten ++ packL (l.drop k) ++ m).drop (k * size) = packL (l.drop k) ++ m := by
          rw [List.append_assoc, ← hfl, List.drop_left]
        have hi := ih (n - k) (by omega) (l.drop k) (by simp; omega) (fun x hx => h x (List.mem_of_mem_drop hx))
        rw [e, show l.length - k = (l.drop k).length by simp, hi]
        simp only [PRes.push, PRes.ok.injEq]
        refine ⟨?_, ?_⟩
        · refine Eq.trans ?_ (List.take_append_drop k l)
          congr 1
          unfold pixelsOf
          rw [hc, ht]
          apply List.ext_getElem (by simp; omega)
          intro j j1 j2
          have jk : j < k := by simpa using j1
          simp only [List.getElem_map, List.getElem_range]
          have e0 : min j (k - 1) = j := by omega
          rw [e0, List.append_assoc, flatten_at (l.take k) (fun x hx => h x (List.mem_of_mem_take hx)) _ j (by simp; omega)]
        · simp only [List.length_cons, List.length_append, hfl]
          omega
end Go.Proofs.Ytkaijekdnbhjaaa
