/- A palette as a list of colours; an entry's colour; Read. -/
import Derived.Test.YtkaijekdnbhjaaaPal1
import Derived.Test.YtkaijekdnbhjaaaSrc
namespace Go.Proofs.Ytkaijekdnbhjaaa
open Go.RowKit
set_option linter.unusedVariables false
set_option linter.unusedSimpArgs false

structure Qc where
  r : UInt8
  g : UInt8
  b : UInt8
  a : UInt8
deriving DecidableEq
def Qc.list (q : Qc) : List UInt8 := [q.r, q.g, q.b, q.a]
def Qc.v (q : Qc) : Value := .agg #[.int .u8 (q.r.toNat : Int), .int .u8 (q.g.toNat : Int), .int .u8 (q.b.toNat : Int), .int .u8 (q.a.toNat : Int)]
def flat (L : List Qc) : List UInt8 := (L.map Qc.list).flatten
theorem flat_len (L : List Qc) : (flat L).length = 4 * L.length := by
  induction L with
  | nil => rfl
  | cons q L ih =>
    simp only [flat, List.map_cons, List.flatten_cons, List.length_append, List.length_cons] at ih ⊢
    rw [ih]
    simp [Qc.list]
    omega
theorem flat_append (L M : List Qc) : flat (L ++ M) = flat L ++ flat M := by simp [flat]
theorem flat_at (L : List Qc) (i : Nat) (q : Qc) (h : L[i]? = some q) (m : List UInt8) : ((flat L ++ m).drop (4 * i)).take 4 = q.list := by
  induction L generalizing i with
  | nil => simp at h
  | cons x L ih =>
    have e : flat (x :: L) = x.list ++ flat L := by simp [flat]
    cases i with
    | zero =>
      have hx : x = q := by simpa using h
      subst hx
      rw [e, Nat.mul_zero, List.drop_zero]
      simp [Qc.list]
    | succ i =>
      have e4 : 4 * (i + 1) = x.list.length + 4 * i := by simp [Qc.list]; omega
      rw [e, List.append_assoc, e4, ← List.drop_drop, List.drop_left]
      exact ih i (by simpa using h)
/-- the palette holds these colours -/
def PalHas (w : World) (p b g d m : Nat) (L : List Qc) : Prop := PalAt w p b (L.length : Int) (m : Int) ∧ L.length ≤ m ∧ ∃ rest, BufAt w b g d (flat L ++ rest) ∧ 4 * L.length + rest.length = 4 * m
section
variable {w w' : World} {p b g d m : Nat} {L : List Qc}
theorem PalHas.turn {S : List Nat} (h : PalHas w p b g d m L) (k : Turn S w w') (hp : p ∉ S) (hb : b ∉ S) (hd : d ∉ S) : PalHas w' p b g d m L := by
  obtain ⟨h1, h2, rest, h3, h4⟩ := h
  exact ⟨Blk.turn h1 k hp, h2, rest, h3.turn k hb hd, h4⟩
theorem PalHas.below (h : PalHas w p b g d m L) (k : Below w.heap.size w w') : PalHas w' p b g d m L := h.turn (Turn.of_below (S := []) k) (by simp) (by simp) (by simp)
theorem PalHas.lt (h : PalHas w p b g d m L) : p < w.heap.size ∧ b < w.heap.size ∧ d < w.heap.size := by
  obtain ⟨h1, h2, rest, h3, h4⟩ := h
  exact ⟨Blk.lt h1, Blk.lt h3.blk, Blk.lt h3.row⟩
theorem PalHas.led (h : PalHas w p b g d m L) {x : Led} (k : LedAt w g x) : p ≠ g ∧ b ≠ g ∧ d ≠ g := by
  obtain ⟨h1, h2, rest, h3, h4⟩ := h
  exact ⟨Blk.ne_ h1 k (by decide), h3.bg k, h3.dg k⟩
theorem PalHas.src (h : PalHas w p b g d m L) {q g' : Nat} {s : ByteArray} {f t a : Nat} (k : SrcAt w q g' s f t a) : p ≠ q ∧ b ≠ q ∧ d ≠ q := by
  obtain ⟨h1, h2, rest, h3, h4⟩ := h
  exact ⟨Blk.ne_ h1 k (by decide), Blk.ne_ h3.blk k (by decide), Blk.ne_ h3.row k (by decide)⟩
theorem PalHas.pbd (h : PalHas w p b g d m L) : p ≠ b ∧ p ≠ d ∧ b ≠ d := by
  obtain ⟨h1, h2, rest, h3, h4⟩ := h
  exact ⟨Blk.ne_ h1 h3.blk (by decide), Blk.ne_ h1 h3.row (by decide), h3.bd⟩
theorem has_new (h : PalAt w p b 0 (m : Int)) (hm : BufAt w b g d (List.replicate (4 * m) 0)) : PalHas w p b g d m [] := ⟨h, by simp, List.replicate (4 * m) 0, hm, by simp⟩
theorem has_add (h : PalHas w p b g d m L) (hn : L.length < m) (hm : m ≤ 65536) (q : Qc) :
    Calls Try.prog 13 #[.pointer (some ⟨p, 0, none⟩), .agg #[.int .u8 (q.r.toNat : Int), .int .u8 (q.g.toNat : Int), .int .u8 (q.b.toNat : Int), .int .u8 (q.a.toNat : Int)]] w fun e w' => e = .returned (.bool true) ∧ PalHas w' p b g d m (L ++ [q]) ∧ Turn [p, d] w w' := by
  obtain ⟨h1, h2, rest, h3, h4⟩ := h
  have hl : (flat L ++ rest).length = 4 * m := by rw [List.length_append, flat_len, h4]
  refine (palAdd_yes h1 h3 hn hm (by rw [hl]; omega) (by rw [hl]; omega) q.r q.g q.b q.a).mono ?_
  rintro e w' ⟨rfl, q1, q2, q3⟩
  refine ⟨rfl, ⟨by rw [List.length_append]; exact q1, by rw [List.length_append]; exact hn, rest.drop 4, ?_, by rw [List.length_append, List.length_drop]; simp; omega⟩, q3⟩
  have e : over (flat L ++ rest) (4 * L.length) [q.r, q.g, q.b, q.a] = flat (L ++ [q]) ++ rest.drop 4 := by
    unfold over
    have e1 : (flat L ++ rest).take (4 * L.length) = flat L := by rw [← flat_len, List.take_left]
    have e2 : (flat L ++ rest).drop (4 * L.length + 4) = rest.drop 4 := by rw [← List.drop_drop, ← flat_len, List.drop_left]
    rw [e1, show [q.r, q.g, q.b, q.a].length = 4 from rfl, e2, flat_append]
    simp [flat, Qc.list]
  rw [← e]
  exact q2
theorem has_full (h : PalHas w p b g d m L) (hn : L.length = m) (c0 c1 c2 c3 : Int) :
    Calls Try.prog 13 #[.pointer (some ⟨p, 0, none⟩), .agg #[.int .u8 c0, .int .u8 c1, .int .u8 c2, .int .u8 c3]] w fun e w' => e = .returned (.bool false) ∧ Below w.heap.size w w' :=
  palAdd_no h.1 (by omega) c0 c1 c2 c3
theorem has_of (h : PalHas w p b g d m L) (hm : m ≤ 65536) {i : Nat} {q : Qc} (hi : L[i]? = some q) :
    Calls Try.prog 19 #[.pointer (some ⟨p, 0, none⟩), .int .i64 (i : Int)] w fun e w' => e = .returned (.tuple #[.agg #[.int .u8 (q.r.toNat : Int), .int .u8 (q.g.toNat : Int), .int .u8 (q.b.toNat : Int), .int .u8 (q.a.toNat : Int)], .bool true]) ∧ Below w.heap.size w w' := by
  obtain ⟨h1, h2, rest, h3, h4⟩ := h
  have hil : i < L.length := (List.getElem?_eq_some_iff.1 hi).1
  have hl : (flat L ++ rest).length = 4 * m := by rw [List.length_append, flat_len, h4]
  exact palOf_yes h1 h3 hil (by omega) (by rw [hl]; omega) (by rw [hl]; omega) (flat_at L i q hi rest)
end

/-- the colour of an entry's bytes -/
def ecol (k : Int) (l : List UInt8) : Qc :=
  if k = 2 then ⟨UInt8.ofNat (pcol (strOf l) 10).toNat, UInt8.ofNat (pcol (strOf l) 5).toNat, UInt8.ofNat (pcol (strOf l) 0).toNat, 255⟩
  else if k = 5 then ⟨l.getD 2 0, l.getD 1 0, l.getD 0 0, l.getD 3 0⟩ else ⟨l.getD 2 0, l.getD 1 0, l.getD 0 0, 255⟩
theorem psize_pos {k : Int} (h : psize k ≠ 0) : k = 2 ∨ k = 3 ∨ k = 4 ∨ k = 5 := by
  unfold psize at h
  by_cases h2 : k = 2
  · exact .inl h2
  by_cases h3 : k = 3
  · exact .inr (.inl h3)
  by_cases h4 : k = 4
  · exact .inr (.inr (.inl h4))
  by_cases h5 : k = 5
  · exact .inr (.inr (.inr h5))
  rw [if_neg h2, if_neg h3, if_neg h4, if_neg h5] at h
  exact absurd rfl h
theorem psize_four {k : Int} : 0 ≤ psize k ∧ psize k ≤ 4 := by
  unfold psize
  repeat' split
  all_goals omega
theorem get_at (s : ByteArray) (i : Nat) (h : i < s.size) : s[i] = s.data.toList.getD i 0 := by
  have hl : i < s.data.toList.length := by rw [list_len]; exact h
  rw [List.getD_eq_getElem?_getD, List.getElem?_eq_getElem hl]
  rfl
theorem pcol_nat (s : ByteArray) (sh : Nat) : ((UInt8.ofNat (pcol s sh).toNat).toNat : Int) = pcol s sh := by
  have := pcol_range s sh
  rw [ofNat8 (by omega)]
  omega
theorem ecol_take {k : Int} {l : List UInt8} {n : Nat} (hk : psize k ≠ 0) (hn : psize k ≤ (n : Int)) : ecol k (l.take n) = ecol k l := by
  have hg : ∀ i, i < n → (l.take n).getD i 0 = l.getD i 0 := fun i hi => by
    rw [List.getD_eq_getElem?_getD, List.getD_eq_getElem?_getD, List.getElem?_take_of_lt hi]
  unfold ecol
  rcases psize_pos hk with rfl | rfl | rfl | rfl
  · have hn2 : (2 : Int) ≤ (n : Int) := hn
    have e : pword (strOf (l.take n)) = pword (strOf l) := by
      unfold pword
      rw [strOf_toList, strOf_toList, hg 0 (by omega), hg 1 (by omega)]
    simp only [if_pos, pcol, e]
  · have hn2 : (3 : Int) ≤ (n : Int) := hn
    rw [if_neg (by decide), if_neg (by decide), if_neg (by decide), if_neg (by decide), hg 0 (by omega), hg 1 (by omega), hg 2 (by omega)]
  · have hn2 : (4 : Int) ≤ (n : Int) := hn
    rw [if_neg (by decide), if_neg (by decide), if_neg (by decide), if_neg (by decide), hg 0 (by omega), hg 1 (by omega), hg 2 (by omega)]
  · have hn2 : (4 : Int) ≤ (n : Int) := hn
    rw [if_neg (by decide), if_pos rfl, if_neg (by decide), if_pos rfl, hg 0 (by omega), hg 1 (by omega), hg 2 (by omega), hg 3 (by omega)]
theorem entry_any (s : ByteArray) (k : Int) (w : World) (hk : psize k ≠ 0) (h : psize k ≤ (s.size : Int)) (hs : s.size ≤ 1073741824) :
    Calls Try.prog 45 #[.string s, .int .i64 k] w fun e w' => e = .returned (.tuple #[(ecol k s.data.toList).v, .bool true]) ∧ Below w.heap.size w w' := by
  rcases psize_pos hk with rfl | rfl | rfl | rfl
  · have h2 : (2 : Int) ≤ (s.size : Int) := h
    have := entry_two s w (by omega) hs
    simp only [ecol, Qc.v, if_pos, strOf_of, pcol_nat]
    exact this
  · have h2 : (3 : Int) ≤ (s.size : Int) := h
    have := entry_three s 3 w (.inl rfl) (by omega) hs (by omega) (by omega) (by omega)
    rw [get_at s 0 (by omega), get_at s 1 (by omega), get_at s 2 (by omega)] at this
    unfold ecol Qc.v
    rw [if_neg (by decide), if_neg (by decide)]
    exact this
  · have h2 : (4 : Int) ≤ (s.size : Int) := h
    have := entry_three s 4 w (.inr rfl) (by omega) hs (by omega) (by omega) (by omega)
    rw [get_at s 0 (by omega), get_at s 1 (by omega), get_at s 2 (by omega)] at this
    unfold ecol Qc.v
    rw [if_neg (by decide), if_neg (by decide)]
    exact this
  · have h2 : (4 : Int) ≤ (s.size : Int) := h
    have := entry_full s w (by omega) hs
    rw [get_at s 0 (by omega), get_at s 1 (by omega), get_at s 2 (by omega), get_at s 3 (by omega)] at this
    unfold ecol Qc.v
    rw [if_neg (by decide), if_pos rfl]
    exact this
theorem refEntry_any (s : ByteArray) (k : Int) (w : World) (hk : psize k ≠ 0) (h : psize k ≤ (s.size : Int)) (hs : s.size ≤ 1073741824) :
    Calls Try.prog 51 #[.string s, .int .i64 k] w fun e w' => e = .returned (ecol k s.data.toList).v ∧ Below w.heap.size w w' := by
  rcases psize_pos hk with rfl | rfl | rfl | rfl
  · have h2 : (2 : Int) ≤ (s.size : Int) := h
    have := refEntry_two s w (by omega) hs
    simp only [ecol, Qc.v, if_pos, strOf_of, pcol_nat]
    exact this
  · have h2 : (3 : Int) ≤ (s.size : Int) := h
    have := refEntry_three s 3 w (.inl rfl) hs (by omega) (by omega) (by omega)
    rw [get_at s 0 (by omega), get_at s 1 (by omega), get_at s 2 (by omega)] at this
    unfold ecol Qc.v
    rw [if_neg (by decide), if_neg (by decide)]
    exact this
  · have h2 : (4 : Int) ≤ (s.size : Int) := h
    have := refEntry_three s 4 w (.inr rfl) hs (by omega) (by omega) (by omega)
    rw [get_at s 0 (by omega), get_at s 1 (by omega), get_at s 2 (by omega)] at this
    unfold ecol Qc.v
    rw [if_neg (by decide), if_neg (by decide)]
    exact this
  · have h2 : (4 : Int) ≤ (s.size : Int) := h
    have := refEntry_full s w (by omega) hs
    rw [get_at s 0 (by omega), get_at s 1 (by omega), get_at s 2 (by omega), get_at s 3 (by omega)] at this
    unfold ecol Qc.v
    rw [if_neg (by decide), if_pos rfl]
    exact this
end Go.Proofs.Ytkaijekdnbhjaaa
