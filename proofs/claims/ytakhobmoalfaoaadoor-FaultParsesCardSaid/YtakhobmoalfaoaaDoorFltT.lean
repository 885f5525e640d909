/- fault, plain: what the document reads is what the program reads. -/
import Derived.Test.YtakhobmoalfaoaaDoorFltR
namespace Go.Proofs.YtakhobmoalfaoaaDoor
set_option linter.unusedVariables false
set_option linter.unusedSimpArgs false

def dgl : List UInt8 → Nat → Option Nat
  | [], v => some v
  | c :: r, v => if c.toNat < 48 ∨ 57 < c.toNat ∨ 461168601842738790 < v then none else dgl r (10 * v + c.toNat - 48)
theorem bt_drop {d : ByteArray} {i : Nat} {c : UInt8} {r : List UInt8} (h : d.data.toList.drop i = c :: r) : bt d i = c.toNat := by
  unfold bt
  have : d.data.toList[i]? = some c := by
    have e := List.getElem?_drop (xs := d.data.toList) (i := i) (j := 0)
    rw [h] at e
    simpa using e.symm
  rw [List.getD_eq_getElem?_getD, this]
  rfl
theorem dgo_dgl (d : ByteArray) : ∀ n i v, i + n = d.size → dgo d n i v = dgl (d.data.toList.drop i) v := by
  intro n
  induction n with
  | zero =>
    intro i v h
    rw [List.drop_eq_nil_of_le (by rw [lenSize]; omega)]
    rfl
  | succ n ih =>
    intro i v h
    cases hd : d.data.toList.drop i with
    | nil =>
      have := List.drop_eq_nil_iff.1 hd
      rw [lenSize] at this
      omega
    | cons c r =>
      have hr : d.data.toList.drop (i + 1) = r := by
        have := List.drop_drop (l := d.data.toList) (i := 1) (j := i)
        rw [hd] at this
        simpa [Nat.add_comm] using this.symm
      unfold dgo dgl
      rw [bt_drop hd, ih (i + 1) _ (by omega), hr]
theorem dgl_append : ∀ (l m : List UInt8) (v : Nat), dgl (l ++ m) v = (dgl l v).bind (dgl m) := by
  intro l
  induction l with
  | nil => intro m v; rfl
  | cons c r ih =>
    intro m v
    rw [List.cons_append]
    unfold dgl
    split
    · rfl
    · exact ih m _
theorem digit_of {d : Nat} (h : d < 10) : (UInt8.ofNat (48 + d)).toNat = 48 + d := by rw [UInt8.toNat_ofNat']; exact Nat.mod_eq_of_lt (by omega)
theorem dgl_dec : ∀ n : Nat, n ≤ 4611686018427387904 → dgl (Lib.decDigits n) 0 = some n := by
  intro n
  induction n using Nat.strongRecOn with
  | ind n ih =>
    intro hn
    rw [Lib.decDigits]
    split
    · rename_i h
      unfold dgl
      rw [digit_of h, if_neg (by omega)]
      unfold dgl
      congr 1
      omega
    · rename_i h
      rw [dgl_append, ih (n / 10) (by omega) (by omega)]
      show dgl _ _ = _
      unfold dgl
      rw [digit_of (by omega), if_neg (by omega)]
      unfold dgl
      congr 1
      omega
theorem dec_head : ∀ n : Nat, 1 ≤ n → ∃ c r, Lib.decDigits n = c :: r ∧ c.toNat ≠ 48 := by
  intro n
  induction n using Nat.strongRecOn with
  | ind n ih =>
    intro hn
    rw [Lib.decDigits]
    split
    · rename_i h
      exact ⟨_, _, rfl, by rw [digit_of h]; omega⟩
    · rename_i h
      obtain ⟨c, r, e, hc⟩ := ih (n / 10) (by omega) (by omega)
      rw [e]
      exact ⟨c, _, rfl, hc⟩
theorem dec_lenT : ∀ k n : Nat, n < 10 ^ (k + 1) → (Lib.decDigits n).length ≤ k + 1 := by
  intro k
  induction k with
  | zero =>
    intro n h
    rw [Lib.decDigits, dif_pos (by simpa using h)]
    simp
  | succ k ih =>
    intro n h
    rw [Lib.decDigits]
    split
    · simp
    · rw [List.length_append]
      have := ih (n / 10) (by rw [Nat.pow_succ] at h; omega)
      simp only [List.length_cons, List.length_nil]
      omega
/-- what is read by digits is the number's digits -/
theorem dec_of_dgl : ∀ (k : Nat) (l : List UInt8) (u : Nat), l.length = k → l ≠ [] → (∀ r, l = 48 :: r → r = []) → dgl l 0 = some u → Lib.decDigits u = l := by
  intro k
  induction k using Nat.strongRecOn with
  | ind k ih =>
    intro l u hk hl h0 h
    have hdl := List.dropLast_concat_getLast hl
    generalize hc : l.getLast hl = c at hdl
    generalize hm : l.dropLast = m at hdl
    rw [← hdl, dgl_append] at h
    cases hq : dgl m 0 with
    | none => rw [hq] at h; cases h
    | some q =>
      rw [hq] at h
      have h : dgl [c] q = some u := h
      unfold dgl at h
      split at h
      · cases h
      · rename_i hcc
        unfold dgl at h
        injection h with h
        have ec : UInt8.ofNat (48 + (c.toNat - 48)) = c := by
          rw [show 48 + (c.toNat - 48) = c.toNat by omega]
          exact UInt8.ofNat_toNat
        by_cases hmn : m = []
        · subst hmn
          have hq0 : q = 0 := by unfold dgl at hq; injection hq with hq; exact hq.symm
          subst hq0
          rw [Lib.decDigits, dif_pos (by omega), ← hdl, show u = c.toNat - 48 by omega, ec]
          rfl
        · have hlen : m.length + 1 = l.length := by rw [← hdl]; simp
          have hm0 : ∀ r, m ≠ 48 :: r := by
            intro r e
            have := h0 (r ++ [c]) (by rw [← hdl, e]; rfl)
            simp at this
          have e := ih m.length (by omega) m q rfl hmn (fun r e => absurd e (hm0 r)) hq
          have hq1 : 1 ≤ q := by
            rcases Nat.eq_zero_or_pos q with hz | hz
            · subst hz
              have : Lib.decDigits 0 = [48] := by rw [Lib.decDigits, dif_pos (by omega)]; rfl
              rw [this] at e
              exact absurd e.symm (hm0 [])
            · exact hz
          rw [Lib.decDigits, dif_neg (by omega), ← hdl, show u / 10 = q by omega, show u % 10 = c.toNat - 48 by omega, ec, e]
theorem refD_some {k f : Nat} {d : ByteArray} {x : Nat × Nat × Nat} (hd : 0 < d.size) (h : refD k f d = some x) : ∃ n, x = (k, f, n) ∧ FRight (k : Int) (f : Int) (n : Int) ∧ d = dec n := by
  unfold refD at h
  split at h
  · cases h
  · rename_i h1
    split at h
    · cases h
    · rename_i v hv
      split at h
      · rename_i hr
        injection h with h
        refine ⟨v, h.symm, hr, ?_⟩
        rw [dgo_dgl d d.size 0 0 (by omega), List.drop_zero] at hv
        have hne : d.data.toList ≠ [] := by
          intro e
          have := lenSize d
          rw [e] at this
          simp at this
          omega
        have h0 : ∀ r, d.data.toList = 48 :: r → r = [] := by
          intro r e
          have hb : bt d 0 = 48 := bt_drop (d := d) (i := 0) (c := 48) (r := r) (by rw [List.drop_zero]; exact e)
          have := lenSize d
          rw [e, List.length_cons] at this
          cases r with
          | nil => rfl
          | cons a b => exact absurd (.inr ⟨hb, by rw [List.length_cons] at this; omega⟩) h1
        have := dec_of_dgl _ _ v rfl hne h0 hv
        apply bytes_ext
        unfold dec
        exact this.symm
      · cases h
theorem refD_dec {k f n : Nat} (hR : FRight (k : Int) (f : Int) (n : Int)) : refD k f (dec n) = some (k, f, n) := by
  have hn : n ≤ 4611686018427387904 := by unfold FRight at hR; omega
  have el : (dec n).data.toList = Lib.decDigits n := rfl
  have hs : (dec n).size = (Lib.decDigits n).length := by rw [← lenSize, el]
  have h19 := dec_lenT 18 n (by omega)
  unfold refD
  rw [if_neg, dgo_dgl _ _ _ _ (Nat.zero_add _), List.drop_zero, el, dgl_dec n hn]
  · simp only
    rw [if_pos hR]
  · rintro (h | ⟨h1, h2⟩)
    · omega
    · rcases Nat.eq_zero_or_pos n with hz | hz
      · subst hz
        have : Lib.decDigits 0 = [48] := by rw [Lib.decDigits, dif_pos (by omega)]; rfl
        rw [hs, this] at h2
        simp at h2
      · obtain ⟨c, r, e, hc⟩ := dec_head n hz
        have hb := bt_drop (d := dec n) (i := 0) (c := c) (r := r) (by rw [List.drop_zero, el]; exact e)
        omega
theorem refF_some {s : ByteArray} {k f : Nat} (h : HasFront s k f) (hone : ∀ j, j ≤ 8 → HasFront s k j → j = f) : ∀ n g, g + n = 9 → g ≤ f → f ≤ 8 → refF s k n g = some (refD k f (s.extract (front k f).size s.size)) := by
  intro n
  induction n with
  | zero => intro g h1 h2 h3; omega
  | succ n ih =>
    intro g h1 h2 h3
    unfold refF
    by_cases hg : g = f
    · subst hg; rw [if_pos h]
    · rw [if_neg (fun h' => hg (hone g (by omega) h')), ih (g + 1) (by omega) (by omega) h3]
theorem refK_some {s : ByteArray} {k f : Nat} (hk : k ≤ 4) (hf : f ≤ 8) (h : HasFront s k f) : ∀ n g, g + n = 5 → g ≤ k → refK s n g = refD k f (s.extract (front k f).size s.size) := by
  intro n
  induction n with
  | zero => intro g h1 h2; omega
  | succ n ih =>
    intro g h1 h2
    unfold refK
    by_cases hg : g = k
    · subst hg
      rw [refF_some h (fun j hj h' => (front_one hk hj hk hf h' h).2) 9 0 rfl (Nat.zero_le _) hf]
    · rw [refF_none 9 0 (fun j _ hj h' => hg (front_one (by omega) (by omega) hk hf h' h).1)]
      exact ih (g + 1) (by omega) (by omega)
theorem refK_none {s : ByteArray} (h : ∀ k f, k ≤ 4 → f ≤ 8 → ¬ HasFront s k f) : ∀ n g, g + n = 5 → refK s n g = none := by
  intro n
  induction n with
  | zero => intro g _; rfl
  | succ n ih =>
    intro g h1
    unfold refK
    rw [refF_none 9 0 (fun j _ hj => h g j (by omega) (by omega))]
    exact ih (g + 1) (by omega)
theorem dec_pos (n : Nat) : 0 < (dec n).size := by
  obtain ⟨c, r, h⟩ := dec_some n
  have e : (dec n).data.toList = Lib.decDigits n := rfl
  rw [← lenSize, e, h]
  simp
theorem front_text (k f n : Nat) : (front k f).data.toList ++ (dec n).data.toList = (ftext (k : Int) (f : Int) n).data.toList := by
  rw [front_list, ftext_list]
  show _ ++ Lib.decDigits n = _
  simp
/-- what the document reads is what the program reads -/
theorem refP_parseP (s : ByteArray) : refP s = parseP s := by
  by_cases hx : ∃ k f, k ≤ 4 ∧ f ≤ 8 ∧ HasFront s k f
  · obtain ⟨k, f, hk, hf, hh⟩ := hx
    have e := refK_some hk hf hh 5 0 rfl (Nat.zero_le _)
    have hl := hasFront_list hh
    have hd : 0 < (s.extract (front k f).size s.size).size := by
      have h1 := lenSize s
      have h2 := lenSize (front k f)
      have h3 := lenSize (s.extract (front k f).size s.size)
      have h4 := hh.1
      rw [hl, List.length_append] at h1
      omega
    generalize s.extract (front k f).size s.size = d at *
    unfold refP
    rw [e]
    cases hr : refD k f d with
    | some x =>
      obtain ⟨n, rfl, hR, rfl⟩ := refD_some hd hr
      rw [front_text] at hl
      rw [bytes_ext hl, parse_text hR]
    | none =>
      cases hp : parseP s with
      | none => rfl
      | some x =>
        obtain ⟨k', f', n⟩ := x
        obtain ⟨hk', hf', hR, hl'⟩ := parseP_front hp
        obtain ⟨hh', hd'⟩ := hasFront_of (dec_pos n) hl'
        obtain ⟨rfl, rfl⟩ := front_one hk' hf' hk hf hh' hh
        rw [hl] at hl'
        have : d = dec n := bytes_ext (List.append_cancel_left hl')
        rw [this, refD_dec hR] at hr
        cases hr
  · unfold refP
    rw [refK_none (fun k f hk hf h => hx ⟨k, f, hk, hf, h⟩) 5 0 rfl]
    cases hp : parseP s with
    | none => rfl
    | some x =>
      obtain ⟨k', f', n⟩ := x
      obtain ⟨hk', hf', hR, hl'⟩ := parseP_front hp
      obtain ⟨hh', hd'⟩ := hasFront_of (dec_pos n) hl'
      exact absurd ⟨k', f', hk', hf', hh'⟩ hx
end Go.Proofs.YtakhobmoalfaoaaDoor
