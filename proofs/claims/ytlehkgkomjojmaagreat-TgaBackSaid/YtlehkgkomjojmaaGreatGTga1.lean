/- Plain: packets of pixels (texts), by runs and by stretches without a pair; and back. Rows of texts; a run at the head of a row (tgarle.run). -/
import Derived.Test.YtlehkgkomjojmaaGreatGWords
namespace Go.Proofs.YtlehkgkomjojmaaGreat
set_option linter.unusedVariables false

set_option linter.unusedSectionVars false
section
variable {α : Type} [DecidableEq α]

/-- n is the length of the run at the list's head, at most m -/
structure Run (m : Nat) (l : List α) (n : Nat) : Prop where
  pos : 1 ≤ n
  le : n ≤ m
  len : n ≤ l.length
  same : ∀ j, j < n → l[j]? = l[0]?
  stop : n < m → n < l.length → l[n]? ≠ l[0]?

/-- a pair stands at j -/
def Pair (l : List α) (j : Nat) : Prop := j + 1 < l.length ∧ l[j]? = l[j + 1]?

/-- n is the length of the stretch at the list's head: behind its first no pair begins in it; at most m -/
structure Lone (m : Nat) (l : List α) (n : Nat) : Prop where
  pos : 1 ≤ n
  le : n ≤ m
  len : n ≤ l.length
  no : ∀ j, 1 ≤ j → j < n → ¬ Pair l j
  stop : n < m → n < l.length → Pair l n

theorem run_unique {m : Nat} {l : List α} {n k : Nat} (a : Run m l n) (b : Run m l k) : n = k := by
  rcases Nat.lt_trichotomy n k with h | h | h
  · exact absurd (b.same n h) (a.stop (by have := b.le; omega) (by have := b.len; omega))
  · exact h
  · exact absurd (a.same k h) (b.stop (by have := a.le; omega) (by have := a.len; omega))
theorem lone_unique {m : Nat} {l : List α} {n k : Nat} (a : Lone m l n) (b : Lone m l k) : n = k := by
  rcases Nat.lt_trichotomy n k with h | h | h
  · exact absurd (a.stop (by have := b.le; omega) (by have := b.len; omega)) (b.no n a.pos h)
  · exact h
  · exact absurd (b.stop (by have := a.le; omega) (by have := a.len; omega)) (a.no k b.pos h)

/-- the least number from k on that is at the bound, at the end, or fails the test -/
def scan (p : Nat → Bool) : Nat → Nat → Nat
  | 0, k => k
  | f + 1, k => if p k then scan p f (k + 1) else k
theorem scan_spec (p : Nat → Bool) (f k : Nat) : k ≤ scan p f k ∧ scan p f k ≤ k + f ∧ (∀ j, k ≤ j → j < scan p f k → p j = true) ∧ (scan p f k < k + f → p (scan p f k) = false) := by
  induction f generalizing k with
  | zero => exact ⟨Nat.le_refl _, Nat.le_refl _, fun j h1 h2 => by simp only [scan] at h2; omega, fun h => by simp only [scan] at h; omega⟩
  | succ f ih =>
    simp only [scan]
    by_cases hp : p k = true
    · rw [if_pos hp]
      obtain ⟨a, b, c, d⟩ := ih (k + 1)
      refine ⟨by omega, by omega, fun j h1 h2 => ?_, fun h => d (by omega)⟩
      rcases Nat.lt_or_ge k j with h | h
      · exact c j h h2
      · obtain rfl : j = k := by omega
        exact hp
    · rw [if_neg hp]
      exact ⟨Nat.le_refl _, by omega, fun j h1 h2 => by omega, fun _ => by simpa using hp⟩

/-- the run's length at the head -/
def runLen (m : Nat) (l : List α) : Nat := scan (fun j => decide (l[j]? = l[0]?)) (min l.length m - 1) 1
def loneLen (m : Nat) (l : List α) : Nat := scan (fun j => decide (¬ (j + 1 < l.length ∧ l[j]? = l[j + 1]?))) (min l.length m - 1) 1

theorem runLen_run {m : Nat} {l : List α} (hm : 1 ≤ m) (hl : 1 ≤ l.length) : Run m l (runLen m l) := by
  obtain ⟨a, b, c, d⟩ := scan_spec (fun j => decide (l[j]? = l[0]?)) (min l.length m - 1) 1
  refine ⟨a, by unfold runLen; omega, by unfold runLen; omega, fun j hj => ?_, fun h1 h2 => ?_⟩
  · rcases Nat.eq_zero_or_pos j with rfl | h
    · rfl
    · simpa using c j h hj
  · exact of_decide_eq_false (d (by unfold runLen at h1 h2; omega))
theorem loneLen_lone {m : Nat} {l : List α} (hm : 1 ≤ m) (hl : 1 ≤ l.length) : Lone m l (loneLen m l) := by
  obtain ⟨a, b, c, d⟩ := scan_spec (fun j => decide (¬ (j + 1 < l.length ∧ l[j]? = l[j + 1]?))) (min l.length m - 1) 1
  refine ⟨a, by unfold loneLen; omega, by unfold loneLen; omega, fun j h hj => ?_, fun h1 h2 => ?_⟩
  · have := c j h hj
    exact of_decide_eq_true (p := ¬ (j + 1 < l.length ∧ l[j]? = l[j + 1]?)) this
  · have := d (by unfold loneLen at h1 h2; omega)
    exact Decidable.of_not_not (p := (loneLen m l + 1 < l.length ∧ l[loneLen m l]? = l[loneLen m l + 1]?)) (of_decide_eq_false this)
end

abbrev Bytes := List UInt8
theorem len_pos {l : List Bytes} (h : l ≠ []) : 1 ≤ l.length := by cases l <;> simp_all
/-- packets of pixels; the fuel is no less than the list's length -/
def packT : Nat → List Bytes → Bytes
  | 0, _ => []
  | f + 1, l => if l = [] then [] else
    if 1 < runLen 128 l then UInt8.ofNat (127 + runLen 128 l) :: (l.headD [] ++ packT f (l.drop (runLen 128 l)))
    else UInt8.ofNat (loneLen 128 l - 1) :: ((l.take (loneLen 128 l)).flatten ++ packT f (l.drop (loneLen 128 l)))
theorem packT_nil (f : Nat) : packT f [] = [] := by cases f <;> simp [packT]
theorem packT_enough (f k : Nat) (l : List Bytes) (hf : l.length ≤ f) (hk : l.length ≤ k) : packT f l = packT k l := by
  induction f generalizing k l with
  | zero =>
    obtain rfl : l = [] := List.eq_nil_of_length_eq_zero (by omega)
    rw [packT_nil, packT_nil]
  | succ f ih =>
    by_cases hl : l = []
    · subst hl; rw [packT_nil, packT_nil]
    · have h1 := len_pos hl
      cases k with
      | zero => omega
      | succ k =>
        simp only [packT]
        have hr := runLen_run (m := 128) (by omega) h1
        have ho := loneLen_lone (m := 128) (by omega) h1
        have r1 := hr.pos
        have o1 := ho.pos
        rw [ih k (l.drop (runLen 128 l)) (by simp; omega) (by simp; omega), ih k (l.drop (loneLen 128 l)) (by simp; omega) (by simp; omega)]
/-- packets of pixels -/
def packL (l : List Bytes) : Bytes := packT l.length l
theorem packL_nil : packL [] = [] := rfl
theorem packL_run {l : List Bytes} {n : Nat} (h : Run 128 l n) (h1 : 1 < n) : packL l = UInt8.ofNat (127 + n) :: (l.headD [] ++ packL (l.drop n)) := by
  have hl : l ≠ [] := by rintro rfl; have := h.len; simp at this; omega
  have hlen := len_pos hl
  have e := run_unique h (runLen_run (by omega) hlen)
  unfold packL
  obtain ⟨m, hm⟩ : ∃ m, l.length = m + 1 := ⟨l.length - 1, by omega⟩
  rw [hm]
  simp only [packT]
  rw [if_neg hl, ← e, if_pos h1, packT_enough m (l.drop n).length (l.drop n) (by simp; omega) (Nat.le_refl _)]
theorem packL_lone {l : List Bytes} {n : Nat} (hr : Run 128 l 1) (h : Lone 128 l n) : packL l = UInt8.ofNat (n - 1) :: ((l.take n).flatten ++ packL (l.drop n)) := by
  have hl : l ≠ [] := by rintro rfl; have := h.len; have := h.pos; simp at *; omega
  have hlen := len_pos hl
  have hpos := h.pos
  have e := lone_unique h (loneLen_lone (by omega) hlen)
  have e1 := run_unique hr (runLen_run (by omega) hlen)
  unfold packL
  obtain ⟨m, hm⟩ : ∃ m, l.length = m + 1 := ⟨l.length - 1, by omega⟩
  rw [hm]
  simp only [packT]
  rw [if_neg hl, ← e1, if_neg (by omega), ← e, packT_enough m (l.drop n).length (l.drop n) (by simp; omega) (Nat.le_refl _)]

theorem flatten_len {size : Nat} (l : List Bytes) (h : ∀ x ∈ l, x.length = size) : l.flatten.length = l.length * size := by
  induction l with
  | nil => simp
  | cons x l ih =>
    simp only [List.flatten_cons, List.length_append, List.length_cons]
    rw [h x (by simp), ih fun y hy => h y (by simp [hy]), Nat.succ_mul]
    omega
end Go.Proofs.YtlehkgkomjojmaaGreat
namespace Go.Proofs.YtlehkgkomjojmaaGreat
open Go.RowKit
set_option linter.unusedVariables false
set_option linter.unusedSimpArgs false

/-- the texts that a slice reads -/
def Texts (w : World) (b off : Nat) (l : List ByteArray) : Prop := ∀ j (hj : j < l.length), w.cell? ⟨b, off + j, none⟩ = some (.string l[j])
def BL (l : List ByteArray) : List Bytes := l.map fun s => s.data.toList
theorem toList_inj {s t : ByteArray} (h : s.data.toList = t.data.toList) : s = t := by rw [← strOf_of s, ← strOf_of t, h]
theorem BL_len (l : List ByteArray) : (BL l).length = l.length := by simp [BL]
theorem BL_get (l : List ByteArray) (i j : Nat) : (BL l)[i]? = (BL l)[j]? ↔ l[i]? = l[j]? := by
  simp only [BL, List.getElem?_map]
  cases hi : l[i]? <;> cases hj : l[j]? <;> simp
  exact ⟨fun h => toList_inj (by rw [h]), fun h => by rw [h]⟩
theorem BL_drop (l : List ByteArray) (k : Nat) : BL (l.drop k) = (BL l).drop k := by simp [BL]
theorem BL_take (l : List ByteArray) (k : Nat) : BL (l.take k) = (BL l).take k := by simp [BL]
theorem BL_run {m k : Nat} {l : List ByteArray} (h : Run m l k) : Run m (BL l) k :=
  ⟨h.pos, h.le, by rw [BL_len]; exact h.len, fun j hj => (BL_get l j 0).2 (h.same j hj), fun h1 h2 e => h.stop h1 (by rw [BL_len] at h2; exact h2) ((BL_get l k 0).1 e)⟩
theorem BL_lone {m k : Nat} {l : List ByteArray} (h : Lone m l k) : Lone m (BL l) k :=
  ⟨h.pos, h.le, by rw [BL_len]; exact h.len, fun j h1 hj q => h.no j h1 hj ⟨by have := q.1; rw [BL_len] at this; exact this, (BL_get l j (j + 1)).1 q.2⟩, fun h1 h2 => by rw [BL_len] at h2; have q := h.stop h1 h2; exact ⟨by rw [BL_len]; exact q.1, (BL_get l k (k + 1)).2 q.2⟩⟩
theorem texts_get (s t : ByteArray) : (s.toList == t.toList) = decide (some s = some t) := by
  by_cases h : s = t
  · rw [h]; simp
  · rw [decide_eq_false (by simpa using h)]
    refine beq_eq_false_iff_ne.2 fun e => h ?_
    rw [ByteArray.toList_eq, ByteArray.toList_eq] at e
    exact toList_inj e
theorem Texts.at_ {w : World} {b off : Nat} {l : List ByteArray} (h : Texts w b off l) {j : Nat} (hj : j < l.length) : ∃ s, l[j]? = some s ∧ w.cell? ⟨b, off + j, none⟩ = some (.string s) :=
  ⟨l[j], List.getElem?_eq_getElem hj, h j hj⟩

set_option maxHeartbeats 1000000 in
theorem run_any {w : World} {b off n c : Nat} {l : List ByteArray} (hl : n = l.length) (h1 : 1 ≤ n) (hn : n ≤ 1073741824) (hc : Texts w b off l) :
    Calls Tryz.prog 120 #[.slice (some ⟨b, off, none⟩) n c] w fun e w' => ∃ k m : Nat, e = .returned (.int .i64 (k : Int)) ∧ Run 128 l k ∧ w' = w.drewN m := by
  obtain ⟨s0, hs0, c0⟩ := hc.at_ (j := 0) (by omega)
  rw [Nat.add_zero] at c0
  have HL := Lib.hid hl
  have HC := Lib.hid hc
  have HS := Lib.hid hs0
  have n0 : (0 : Int) < (n : Int) := by omega
  have n0' : 0 < n := by omega
  clear hl hc hs0
  go_enter Tryz.func120, Tryz.ntmps120
  go_wp2_with fail
  go_loopg [3] 127 (fun g x w2 => ∃ k m : Nat, 128 = k + g ∧ 1 ≤ k ∧ k ≤ n ∧ k ≤ 128 ∧ x = .int .i64 (k : Int) ∧ Hid (∀ j, j < k → l[j]? = l[0]?) ∧ w2 = w.drewN m)
  case atStart => exact ⟨1, 0, by omega, by omega, by omega, by omega, rfl, Lib.hid (fun j hj => by rw [show j = 0 by omega]), rfl⟩
  case round =>
    obtain ⟨k, m, hg, hk1, hk2, hk3, rfl, hsame, rfl⟩ := hrel
    by_cases h63 : (128 : Int) < (n : Int)
    all_goals
      by_cases hlt : k < n ∧ k < 128
      · obtain ⟨l1, l2⟩ := hlt
        have l3 : (k : Int) < (n : Int) := by omega
        have l4 : (k : Int) < 128 := by omega
        obtain ⟨sk, hsk, ck⟩ := HC.out.at_ (j := k) (by rw [← HL.out]; exact l1)
        have hd : (sk.toList == s0.toList) = decide (l[k]? = l[0]?) := by rw [hsk, HS.out]; exact texts_get _ _
        have HD := Lib.hid hd
        clear hsk hd
        cases hcc : (sk.toList == s0.toList)
        · go_wp2_with fail
          go_quiet (fail)
          go_wp2_with fail
          go_ret
          exact ⟨k, _, rfl, ⟨hk1, hk3, by rw [← HL.out]; exact hk2, hsame.out, fun _ _ e => by
            have := HD.out
            rw [hcc, decide_eq_true e] at this
            cases this⟩, World.drewN_drewN _ _ _⟩
        · go_wp2_with fail
          go_quiet (fail)
          go_wp2_with fail
          go_roundg (127 - k)
          case measure => omega
          case rel =>
            exact ⟨k + 1, _, by omega, by omega, by omega, by omega, by go_num, Lib.hid (by
              intro j hj
              rcases Nat.lt_succ_iff_lt_or_eq.1 hj with h | rfl
              · exact hsame.out j h
              · have := HD.out
                rw [hcc] at this
                exact of_decide_eq_true this.symm), rfl⟩
      · have q1 : k = n ∨ k = 128 := by omega
        first
          | (have l4 : decide ((k : Int) < 128) = false := decide_eq_false (by omega)
             go_wp2_with fail
             go_quiet (fail)
             go_wp2_with fail
             go_ret
             exact ⟨k, _, rfl, ⟨hk1, hk3, by rw [← HL.out]; exact hk2, hsame.out, fun a b => by rw [← HL.out] at b; omega⟩, World.drewN_drewN _ _ _⟩)
          | (have l4 : decide (k < n) = false := decide_eq_false (by omega)
             go_wp2_with fail
             go_quiet (fail)
             go_wp2_with fail
             go_ret
             exact ⟨k, _, rfl, ⟨hk1, hk3, by rw [← HL.out]; exact hk2, hsame.out, fun a b => by rw [← HL.out] at b; omega⟩, World.drewN_drewN _ _ _⟩)
end Go.Proofs.YtlehkgkomjojmaaGreat
