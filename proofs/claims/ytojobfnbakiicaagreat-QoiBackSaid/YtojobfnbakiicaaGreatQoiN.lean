/- Plain: what qoi writes is read again. The law QoiBack. -/
import Derived.Test.YtojobfnbakiicaaGreatQoiEnc
import Derived.Test.YtojobfnbakiicaaGreatQoiM
import Derived.Test.YtojobfnbakiicaaGreatImgOpen
namespace Go.Proofs.YtojobfnbakiicaaGreat
set_option linter.unusedVariables false
set_option linter.unusedSimpArgs false

theorem bat_strq (l : List UInt8) (i : Nat) : bat (strOf l) i = (l.getD i 0).toNat := by
  unfold bat nats
  rw [strOf_toList]
  simp only [List.getD_eq_getElem?_getD, List.getElem?_map]
  cases l[i]? <;> rfl
/-- bytes that stand in a file -/
structure QBytes (s : ByteArray) (a : Nat) (m : List UInt8) : Prop where
  sz : a + m.length ≤ s.size
  at_ : ∀ j u, m[j]? = some u → bat s (a + j) = u.toNat
theorem QBytes.left {s : ByteArray} {a : Nat} {m n : List UInt8} (h : QBytes s a (m ++ n)) : QBytes s a m :=
  ⟨by have := h.sz; rw [List.length_append] at this; omega, fun j u hj => h.at_ j u (by
    have hl : j < m.length := (List.getElem?_eq_some_iff.1 hj).1
    rw [List.getElem?_append_left hl]; exact hj)⟩
theorem QBytes.right {s : ByteArray} {a : Nat} {m n : List UInt8} (h : QBytes s a (m ++ n)) : QBytes s (a + m.length) n :=
  ⟨by have := h.sz; rw [List.length_append] at this; omega, fun j u hj => by
    have := h.at_ (m.length + j) u (by rw [List.getElem?_append_right (by omega), show m.length + j - m.length = j by omega]; exact hj)
    rw [Nat.add_assoc]; exact this⟩
theorem QBytes.head {s : ByteArray} {a : Nat} {b : UInt8} {m : List UInt8} (h : QBytes s a (b :: m)) : bat s a = b.toNat := h.at_ 0 b rfl
theorem QBytes.whole (p m : List UInt8) : QBytes (strOf (p ++ m)) p.length m :=
  ⟨by rw [strOf_size, List.length_append]; omega, fun j u hj => by
    rw [bat_strq, List.getD_eq_getElem?_getD, List.getElem?_append_right (by omega), show p.length + j - p.length = j by omega, hj]; rfl⟩
def flushb (r : Nat) : List UInt8 := if r = 0 then [] else [UInt8.ofNat (192 + r - 1)]
theorem flushL_eq (r : Nat) (l : List UInt8) : flushL r l = l ++ flushb r := by
  unfold flushL flushb
  split
  · rw [List.append_nil]
  · rfl
/-- what a pixel adds to the file -/
def qext (x : QE) (c : Qc) : List UInt8 := if c = x.last then (if x.run + 1 = 62 then flushb 62 else []) else flushb x.run ++ wstep x.last x.seen c
theorem step_out (x : QE) (c : Qc) : (x.step c).out = x.out ++ qext x c := by
  unfold QE.step qext
  split
  · split
    · show flushL 62 x.out = x.out ++ flushb 62
      exact flushL_eq _ _
    · exact (List.append_nil _).symm
  · show flushL _ _ ++ _ = _
    rw [flushL_eq, List.append_assoc]
def encs : QE → List Qc → List UInt8
  | x, [] => flushb x.run ++ qend
  | x, c :: L => qext x c ++ encs (x.step c) L
theorem encs_is : ∀ (L : List Qc) (x : QE), flushL (x.all L).run (x.all L).out ++ qend = x.out ++ encs x L := by
  intro L
  induction L with
  | nil => intro x; show flushL x.run x.out ++ qend = _; rw [flushL_eq, List.append_assoc]; rfl
  | cons c L ih =>
    intro x
    show flushL ((x.step c).all L).run ((x.step c).all L).out ++ qend = _
    rw [ih, step_out, List.append_assoc]
    rfl
theorem ofNat8N {n : Nat} (h : n < 256) : (UInt8.ofNat n).toNat = n := by
  have := ofNat8 h
  omega
theorem b8_of {s : ByteArray} {i : Nat} {u : UInt8} (h : bat s i = u.toNat) : b8 s i = u := by
  unfold b8
  rw [h]
  exact UInt8.ofNat_toNat
theorem qadd_apart (u v : UInt8) {d : Int} (h : d = qapart u v) : qadd v d = u := by
  have h1 := UInt8.toNat_lt u
  have h2 := UInt8.toNat_lt v
  have e : (((v.toNat : Int) + d + 512) % 256).toNat = u.toNat := by
    rw [h]
    unfold qapart
    omega
  unfold qadd
  rw [e]
  exact UInt8.ofNat_toNat
theorem wstep_back {s : ByteArray} {a : Nat} {last c : Qc} {seen : List Qc} (h : QBytes s a (wstep last seen c)) : qstep s a last seen = (c, 1) ∧ 1 + qneed (bat s a) = (wstep last seen c).length := by
  unfold wstep at h ⊢
  by_cases h1 : seen[qplace c]? = some c
  · rw [if_pos h1] at h ⊢
    have hp := qplace_lt c
    have hb := h.head
    rw [ofNat8N (by omega)] at hb
    constructor
    · unfold qstep
      rw [if_neg (by omega), if_neg (by omega), if_pos (by omega), hb, List.getD_eq_getElem?_getD, h1]
      rfl
    · unfold qneed
      rw [if_neg (by omega), if_neg (by omega), if_neg (by omega)]
      rfl
  · rw [if_neg h1] at h ⊢
    by_cases h2 : c.a ≠ last.a
    · rw [if_pos h2] at h ⊢
      have hb : bat s a = 255 := h.head
      constructor
      · unfold qstep
        rw [if_neg (by omega), if_pos hb, b8_of (h.at_ 1 _ rfl), b8_of (h.at_ 2 _ rfl), b8_of (h.at_ 3 _ rfl), b8_of (h.at_ 4 _ rfl)]
      · unfold qneed
        rw [if_neg (by omega), if_pos hb]
        rfl
    · rw [if_neg h2] at h ⊢
      have ha : last.a = c.a := (Decidable.not_not.1 h2).symm
      obtain ⟨r, hr⟩ : ∃ r, qapart c.r last.r = r := ⟨_, rfl⟩
      obtain ⟨g, hg⟩ : ∃ g, qapart c.g last.g = g := ⟨_, rfl⟩
      obtain ⟨b, hbb⟩ : ∃ b, qapart c.b last.b = b := ⟨_, rfl⟩
      simp only [hr, hg, hbb] at h ⊢
      have hsh : ∀ r' g' b' : Int, r' = r → g' = g → b' = b → qshift last r' g' b' = c := by
        rintro r' g' b' rfl rfl rfl
        unfold qshift
        rw [qadd_apart c.r last.r hr.symm, qadd_apart c.g last.g hg.symm, qadd_apart c.b last.b hbb.symm, ha]
      by_cases h3 : (-2 ≤ r ∧ r ≤ 1) ∧ (-2 ≤ g ∧ g ≤ 1) ∧ (-2 ≤ b ∧ b ≤ 1)
      · rw [if_pos h3] at h ⊢
        have hb := h.head
        rw [ofNat8N (by omega)] at hb
        constructor
        · unfold qstep
          rw [if_neg (by omega), if_neg (by omega), if_neg (by omega), if_pos (by omega), hsh _ _ _ (by omega) (by omega) (by omega)]
        · unfold qneed
          rw [if_neg (by omega), if_neg (by omega), if_neg (by omega)]
          rfl
      · rw [if_neg h3] at h ⊢
        by_cases h4 : (-32 ≤ g ∧ g ≤ 31) ∧ (-8 ≤ r - g ∧ r - g ≤ 7) ∧ (-8 ≤ b - g ∧ b - g ≤ 7)
        · rw [if_pos h4] at h ⊢
          have hb := h.head
          have hb2 := h.at_ 1 _ rfl
          rw [ofNat8N (by omega)] at hb hb2
          constructor
          · unfold qstep
            rw [if_neg (by omega), if_neg (by omega), if_neg (by omega), if_neg (by omega), if_pos (by omega), hsh _ _ _ (by omega) (by omega) (by omega)]
          · unfold qneed
            rw [if_neg (by omega), if_neg (by omega), if_pos (by omega)]
            rfl
        · rw [if_neg h4] at h ⊢
          have hb : bat s a = 254 := h.head
          constructor
          · unfold qstep
            rw [if_pos hb, b8_of (h.at_ 1 _ rfl), b8_of (h.at_ 2 _ rfl), b8_of (h.at_ 3 _ rfl), ha]
          · unfold qneed
            rw [if_pos hb]
            rfl
/-- a step of the decoder -/
theorem pix_op {s : ByteArray} {W H N z f a m : Nat} {last c : Qc} {seen D : List Qc} (hD : D.length < N) (hf : N ≤ f + D.length) (ha : a + 1 + qneed (bat s a) ≤ s.size) (hq : qstep s a last seen = (c, m)) (hm : D.length + m ≤ N) :
    ∃ f', N ≤ f' + (D ++ List.replicate m c).length ∧ (qoiPix s W H N z f a last seen D).told = (qoiPix s W H N z f' (a + 1 + qneed (bat s a)) c (seen.set (qplace c) c) (D ++ List.replicate m c)).told := by
  have hp := (qstep_pos s a last seen).1
  rw [hq] at hp
  obtain ⟨f', rfl⟩ : ∃ k, f = k + 1 := ⟨f - 1, by omega⟩
  refine ⟨f', ?_, ?_⟩
  · rw [List.length_append, List.length_replicate]
    simp only at hp
    omega
  · have put : (qput s W H N z f' a last seen D).told = (qoiPix s W H N z f' (a + 1 + qneed (bat s a)) c (seen.set (qplace c) c) (D ++ List.replicate m c)).told := by
      unfold qput
      rw [hq]
      simp only
      rw [if_neg (by omega), works_told]
    rw [qoiPix_succ (by omega), Dec.told, if_pos (by omega)]
    by_cases h0 : qneed (bat s a) = 0
    · rw [if_pos h0]; exact put
    · rw [if_neg h0, Dec.told, if_pos ha]; exact put
/-- a run -/
theorem pix_run {s : ByteArray} {W H N z f a r : Nat} {last : Qc} {seen D : List Qc} (h1 : 1 ≤ r) (h2 : r ≤ 62) (hf : N ≤ f + D.length) (hm : D.length + r ≤ N) (h : QBytes s a (flushb r)) :
    ∃ f', N ≤ f' + (D ++ List.replicate r last).length ∧ (qoiPix s W H N z f a last seen D).told = (qoiPix s W H N z f' (a + (flushb r).length) last (seen.set (qplace last) last) (D ++ List.replicate r last)).told := by
  have e : flushb r = [UInt8.ofNat (192 + r - 1)] := by unfold flushb; rw [if_neg (by omega)]
  rw [e] at h ⊢
  have hb := h.head
  rw [ofNat8N (by omega)] at hb
  have hn : qneed (bat s a) = 0 := by unfold qneed; rw [if_neg (by omega), if_neg (by omega), if_neg (by omega)]
  have hs := h.sz
  have hq : qstep s a last seen = (last, r) := by
    unfold qstep
    rw [if_neg (by omega), if_neg (by omega), if_neg (by omega), if_neg (by omega), if_neg (by omega)]
    congr 1
    omega
  obtain ⟨f', g1, g2⟩ := pix_op (W := W) (H := H) (z := z) (by omega) hf (by rw [hn]; simpa using hs) hq hm
  refine ⟨f', g1, ?_⟩
  rw [g2, hn]
  rfl
theorem set_set_same {α : Type} (l : List α) (i : Nat) (x : α) : (l.set i x).set i x = l.set i x := by
  rw [List.set_set]
theorem rep_add {α : Type} (n : Nat) (x : α) : List.replicate n x ++ [x] = List.replicate (n + 1) x := by
  rw [List.replicate_succ']
theorem tail_back {s : ByteArray} {W H z a : Nat} {L : List Qc} (h : QBytes s a qend) : (qoiTail s W H z L 8 a).told = .img W H (flat L) := by
  have hs := h.sz
  have hs8 : a + 8 ≤ s.size := hs
  have k : ∀ n j, j + n = 8 → (qoiTail s W H z L n (a + j)).told = .img W H (flat L) := by
    intro n
    induction n with
    | zero => intro j _; rfl
    | succ n ih =>
      intro j hj
      rw [qoiTail_told, if_pos (by omega), if_pos ?_]
      · exact ih (j + 1) (by omega)
      · rcases (by omega : j = 0 ∨ j = 1 ∨ j = 2 ∨ j = 3 ∨ j = 4 ∨ j = 5 ∨ j = 6 ∨ j = 7) with rfl | rfl | rfl | rfl | rfl | rfl | rfl | rfl
        · obtain rfl : n = 7 := by omega
          exact h.at_ 0 0 rfl
        · obtain rfl : n = 6 := by omega
          exact h.at_ 1 0 rfl
        · obtain rfl : n = 5 := by omega
          exact h.at_ 2 0 rfl
        · obtain rfl : n = 4 := by omega
          exact h.at_ 3 0 rfl
        · obtain rfl : n = 3 := by omega
          exact h.at_ 4 0 rfl
        · obtain rfl : n = 2 := by omega
          exact h.at_ 5 0 rfl
        · obtain rfl : n = 1 := by omega
          exact h.at_ 6 0 rfl
        · obtain rfl : n = 0 := by omega
          exact h.at_ 7 1 rfl
  exact k 8 0 rfl
/-- all is read again -/
theorem back_all {s : ByteArray} {W H N z : Nat} : ∀ (L : List Qc) (x : QE) (a f : Nat) (D seenD : List Qc), QBytes s a (encs x L) → x.run < 62 → x.seen = (if x.run = 0 then seenD else seenD.set (qplace x.last) x.last) → D.length + x.run + L.length = N → N ≤ f + D.length →
    (qoiPix s W H N z f a x.last seenD D).told = .img W H (flat (D ++ List.replicate x.run x.last ++ L)) := by
  intro L
  induction L with
  | nil =>
    intro x a f D seenD h hr hs hN hf
    have h' : QBytes s a (flushb x.run ++ qend) := h
    simp only [List.length_nil, Nat.add_zero] at hN
    rw [List.append_nil]
    by_cases h0 : x.run = 0
    · rw [h0] at h' ⊢
      rw [List.replicate_zero, List.append_nil, qoiPix_end (by omega)]
      exact tail_back h'
    · obtain ⟨f', g1, g2⟩ := pix_run (W := W) (H := H) (z := z) (last := x.last) (seen := seenD) (by omega) (by omega) hf (by omega) h'.left
      rw [g2, qoiPix_end (by rw [List.length_append, List.length_replicate]; omega)]
      exact tail_back h'.right
  | cons c L ih =>
    intro x a f D seenD h hr hs hN hf
    have h' : QBytes s a (qext x c ++ encs (x.step c) L) := h
    simp only [List.length_cons] at hN
    by_cases hc : c = x.last
    · by_cases h62 : x.run + 1 = 62
      · have e1 : qext x c = flushb 62 := by unfold qext; rw [if_pos hc, if_pos h62]
        have e2 : x.step c = ⟨0, c, x.seen.set (qplace c) c, flushL 62 x.out⟩ := by unfold QE.step; rw [if_pos hc, if_pos h62]
        rw [e1, e2] at h'
        obtain ⟨f', g1, g2⟩ := pix_run (W := W) (H := H) (z := z) (last := x.last) (seen := seenD) (by omega) (by omega) hf (by omega) h'.left
        rw [g2]
        have key := ih ⟨0, c, x.seen.set (qplace c) c, flushL 62 x.out⟩ (a + (flushb 62).length) f' (D ++ List.replicate 62 x.last) (seenD.set (qplace x.last) x.last) h'.right (show (0 : Nat) < 62 by decide) (by
          show x.seen.set (qplace c) c = _
          rw [if_pos rfl, hc, hs, if_neg (by omega), List.set_set]) (by rw [List.length_append, List.length_replicate]; show _ + 0 + _ = _; omega) g1
        simp only at key
        rw [hc] at key ⊢
        rw [key, show x.run = 61 by omega]
        simp only [List.replicate_zero, List.append_nil, List.append_assoc]
        rw [← rep_add 61 x.last, List.append_assoc]
        rfl
      · have e1 : qext x c = [] := by unfold qext; rw [if_pos hc, if_neg h62]
        have e2 : x.step c = ⟨x.run + 1, c, x.seen.set (qplace c) c, x.out⟩ := by unfold QE.step; rw [if_pos hc, if_neg h62]
        rw [e1, e2, List.nil_append] at h'
        have key := ih ⟨x.run + 1, c, x.seen.set (qplace c) c, x.out⟩ a f D seenD h' (by show x.run + 1 < 62; omega) (by
          show x.seen.set (qplace c) c = _
          rw [if_neg (Nat.succ_ne_zero _), hs]
          split
          · rfl
          · rw [← hc, List.set_set]) (by show _ + (x.run + 1) + _ = _; omega) hf
        simp only at key
        rw [hc] at key ⊢
        rw [key, ← rep_add]
        simp only [List.append_assoc]
        rfl
    · have e1 : qext x c = flushb x.run ++ wstep x.last x.seen c := by unfold qext; rw [if_neg hc]
      have e2 : x.step c = ⟨0, c, x.seen.set (qplace c) c, flushL x.run x.out ++ wstep x.last x.seen c⟩ := by unfold QE.step; rw [if_neg hc]
      rw [e1, e2, List.append_assoc] at h'
      have hfl : ∃ f', N ≤ f' + (D ++ List.replicate x.run x.last).length ∧ (qoiPix s W H N z f a x.last seenD D).told = (qoiPix s W H N z f' (a + (flushb x.run).length) x.last x.seen (D ++ List.replicate x.run x.last)).told := by
        by_cases h0 : x.run = 0
        · rw [h0] at hs ⊢
          rw [if_pos rfl] at hs
          refine ⟨f, by simpa using hf, ?_⟩
          rw [hs]
          simp [flushb]
        · obtain ⟨f', g1, g2⟩ := pix_run (W := W) (H := H) (z := z) (last := x.last) (seen := seenD) (by omega) (by omega) hf (by omega) h'.left
          rw [if_neg h0] at hs
          exact ⟨f', g1, by rw [g2, hs]⟩
      obtain ⟨f1, g1, g2⟩ := hfl
      have hw := h'.right.left
      obtain ⟨hq, hn⟩ := wstep_back hw
      have hl : (D ++ List.replicate x.run x.last).length = D.length + x.run := by rw [List.length_append, List.length_replicate]
      obtain ⟨f2, g3, g4⟩ := pix_op (W := W) (H := H) (z := z) (N := N) (f := f1) (D := D ++ List.replicate x.run x.last) (by rw [hl]; omega) g1 (by have := hw.sz; omega) hq (by rw [hl]; omega)
      rw [g2, g4]
      have key := ih ⟨0, c, x.seen.set (qplace c) c, flushL x.run x.out ++ wstep x.last x.seen c⟩ (a + (flushb x.run).length + (wstep x.last x.seen c).length) f2 (D ++ List.replicate x.run x.last ++ List.replicate 1 c) (x.seen.set (qplace c) c) h'.right.right (show (0 : Nat) < 62 by decide) (by rw [if_pos rfl]) (by rw [List.length_append, hl, List.length_replicate]; show _ + 0 + _ = _; omega) g3
      simp only at key
      rw [show a + (flushb x.run).length + 1 + qneed (bat s (a + (flushb x.run).length)) = a + (flushb x.run).length + (wstep x.last x.seen c).length by omega, key]
      simp only [List.replicate_zero, List.append_nil, List.append_assoc]
      rfl
section
variable {W H : Nat} {L : List Qc}
theorem qfile_is : qoiFile W H L = qoiHd W H ++ encs (qe0 W H) L := encs_is L (qe0 W H)
theorem qfile_at (i : Nat) (h : i < 14) : (qoiFile W H L).getD i 0 = (qoiHd W H).getD i 0 := by
  rw [qfile_is]
  simp only [List.getD_eq_getElem?_getD]
  rw [List.getElem?_append_left (by simpa [qoiHd] using h)]
theorem qback_off : offFrom (strOf (qoiFile W H L)) qoiW 4 0 = 4 := by
  have o := offFrom_is (strOf (qoiFile W H L)) qoiW 4 0
  generalize offFrom (strOf (qoiFile W H L)) qoiW 4 0 = i at o
  by_cases h : i < 4
  · exfalso
    have hs := o.stop (by omega)
    rw [bat_strq, qfile_at i (by omega)] at hs
    rcases (by omega : i = 0 ∨ i = 1 ∨ i = 2 ∨ i = 3) with rfl | rfl | rfl | rfl
    all_goals exact hs rfl
  · have := o.hi; omega
theorem qback_be4 (hW : W ≤ 60) : beN (strOf (qoiFile W H L)) 4 4 = W := by
  unfold beN beN beN beN beN
  simp only [bat_strq]
  rw [qfile_at (4 + 0) (by omega), qfile_at (4 + 1) (by omega), qfile_at (4 + 2) (by omega), qfile_at (4 + 3) (by omega)]
  show ((((0 * 256 + 0) * 256 + 0) * 256 + 0) * 256 + (UInt8.ofNat W).toNat) = W
  have := ofNat8 (n := W) (by omega)
  omega
theorem qback_be8 (hH : H ≤ 60) : beN (strOf (qoiFile W H L)) 8 4 = H := by
  unfold beN beN beN beN beN
  simp only [bat_strq]
  rw [qfile_at (8 + 0) (by omega), qfile_at (8 + 1) (by omega), qfile_at (8 + 2) (by omega), qfile_at (8 + 3) (by omega)]
  show ((((0 * 256 + 0) * 256 + 0) * 256 + 0) * 256 + (UInt8.ofNat H).toNat) = H
  have := ofNat8 (n := H) (by omega)
  omega
theorem qback_told (hW : 1 ≤ W ∧ W ≤ 60) (hH : 1 ≤ H ∧ H ≤ 60) (hl : L.length = W * H) : (qoiDec (strOf (qoiFile W H L))).told = .img W H (flat L) ∧ qoiSides (strOf (qoiFile W H L)) = (W, H) := by
  have hsz : 14 ≤ (strOf (qoiFile W H L)).size := by rw [strOf_size, qfile_is, List.length_append]; show 14 ≤ 14 + _; omega
  have hh : qoiHead (strOf (qoiFile W H L)) = none := by
    have k12 : bat (strOf (qoiFile W H L)) 12 = 4 := by rw [bat_strq, qfile_at 12 (by omega)]; rfl
    have k13 : bat (strOf (qoiFile W H L)) 13 = 0 := by rw [bat_strq, qfile_at 13 (by omega)]; rfl
    unfold qoiHead
    rw [qback_off, if_neg (by omega), qback_be4 hW.2, qback_be8 hH.2, k12, k13]
    rcases sideBad_cases W 4 with ⟨a, _⟩ | ⟨a, _⟩ | ⟨_, _, e⟩
    · omega
    · omega
    · rw [e]
      rcases sideBad_cases H 8 with ⟨a, _⟩ | ⟨a, _⟩ | ⟨_, _, e'⟩
      · omega
      · omega
      · rw [e']; rfl
  constructor
  · rw [qoiDec_told, if_neg (by omega), hh, qback_be4 hW.2, qback_be8 hH.2]
    show (qoiPix _ W H (W * H) _ (W * H) 14 q255 qseen []).told = _
    have hb : QBytes (strOf (qoiFile W H L)) 14 (encs (qe0 W H) L) := by
      rw [qfile_is]
      exact QBytes.whole (qoiHd W H) _
    have key := back_all (s := strOf (qoiFile W H L)) (W := W) (H := H) (N := W * H) (z := 4 * (W * H)) L (qe0 W H) 14 (W * H) [] qseen hb (show (0 : Nat) < 62 by decide) rfl (by show 0 + 0 + _ = _; omega) (by simp)
    exact key
  · unfold qoiSides
    rw [if_neg (by omega), hh, qback_be4 hW.2, qback_be8 hH.2]
end
end Go.Proofs.YtojobfnbakiicaaGreat
namespace Go.Proofs.YtojobfnbakiicaaGreat
open Go.RowKit
set_option linter.unusedVariables false
set_option linter.unusedSimpArgs false

theorem bytes_form {w : World} {a : Option Addr} {n : Nat} {l : List UInt8} (h : BytesAt w a n l) (hn : 0 < n) : ∃ b off, a = some ⟨b, off, none⟩ ∧ n = l.length ∧ (∀ j (hj : j < l.length), w.cell? ⟨b, off + j, none⟩ = some (.int .u8 (l[j].toNat : Int))) ∧ b < w.heap.size := by
  obtain ⟨h1, h0 | ⟨b, off, rfl, hc⟩⟩ := h
  · omega
  · exact ⟨b, off, rfl, h1, hc, World.block_lt_of_cell? w _ (hc 0 (by omega))⟩
theorem qoiWrite_no {W H : Int} {a : Option Addr} {n c : Nat} (hR : ¬ RightP W H n) (w : World) :
    Calls Tryz.prog 13 #[.agg #[.int .i64 W, .int .i64 H, .slice a n c]] w fun e w' => e = .returned (.tuple #[.string ⟨#[]⟩, .int .i64 11]) ∧ Below w.heap.size w w' := by
  have HR := Lib.hid (fun w => right_bool (a := a) (c := c) (decide_eq_false hR) w)
  have HB : Below w.heap.size w (w.alloc (.cells #[.int .i64 W, .int .i64 H, .slice a n c] 24)) := (Below.refl _ _).alloc (Nat.le_refl _) _
  clear hR
  go_enter Tryz.func13, Tryz.ntmps13
  go_wp2_with (go_at_call 47; refine (HR.out _).mono ?_; rintro e w1 ⟨rfl, b1⟩)
  go_ret2
  exact ⟨rfl, below_next HB b1⟩
set_option maxRecDepth 100000 in
set_option maxHeartbeats 4000000 in
theorem qoiBack_large {w : World} {W H : Int} {a : Option Addr} {n c : Nat} (h : 2000 < n ∨ (n ≤ 2000 ∧ 60 < W) ∨ (n ≤ 2000 ∧ ¬ 60 < W ∧ 60 < H)) :
    Calls Tryz.prog 3 #[.agg #[.int .i64 W, .int .i64 H, .slice a n c]] w fun e w' => e = .returned (.bool true) ∧ Below w.heap.size w w' := by
  have HB : Below w.heap.size w (w.alloc (.cells #[.int .i64 W, .int .i64 H, .slice a n c] 24)) := (Below.refl _ _).alloc (Nat.le_refl _) _
  rcases h with h | ⟨h, h2⟩ | ⟨h, h2, h3⟩
  · have hI : (2000 : Int) < (n : Int) := by omega
    go_enter Tryz.func3, Tryz.ntmps3
    go_wp2_with (go_at_call 12; refine (awake26_any _).mono ?_; rintro e w1 ⟨rfl, b1⟩)
    go_ret
    exact ⟨rfl, below_next HB b1⟩
  · have hI : ¬ (2000 : Int) < (n : Int) := by omega
    go_enter Tryz.func3, Tryz.ntmps3
    go_wp2_with (go_at_call 12; refine (awake26_any _).mono ?_; rintro e w1 ⟨rfl, b1⟩)
    go_ret
    exact ⟨rfl, below_next HB b1⟩
  · have hI : ¬ (2000 : Int) < (n : Int) := by omega
    go_enter Tryz.func3, Tryz.ntmps3
    go_wp2_with (go_at_call 12; refine (awake26_any _).mono ?_; rintro e w1 ⟨rfl, b1⟩)
    go_ret
    exact ⟨rfl, below_next HB b1⟩
set_option maxRecDepth 100000 in
set_option maxHeartbeats 4000000 in
theorem qoiBack_no {w : World} {W H : Int} {a : Option Addr} {n c : Nat} (h1 : n ≤ 2000) (h2 : ¬ 60 < W) (h3 : ¬ 60 < H) (hR : ¬ RightP W H n) :
    Calls Tryz.prog 3 #[.agg #[.int .i64 W, .int .i64 H, .slice a n c]] w fun e w' => e = .returned (.bool true) ∧ Below w.heap.size w w' := by
  have hI : ¬ (2000 : Int) < (n : Int) := by omega
  have HW := Lib.hid (fun w => qoiWrite_no (a := a) (c := c) hR w)
  have HR := Lib.hid (fun w => refRight_bool (a := a) (c := c) (decide_eq_false hR) w)
  have I0 := IB.new w W H a n c
  have HB : Below w.heap.size w (w.alloc (.cells #[.int .i64 W, .int .i64 H, .slice a n c] 24)) := (Below.refl _ _).alloc (Nat.le_refl _) _
  clear hR h1
  go_enter Tryz.func3, Tryz.ntmps3
  go_wp2_with (first
    | (go_at_call 13; refine (HW.out _).mono ?_; rintro e w1 ⟨rfl, b1⟩; have I1 : IB w1 w.heap.size W H a n c := Blk.below I0 b1 (Blk.lt I0); obtain ⟨e0, e1, e2, v0, v1, v2, il⟩ := IB.all I1)
    | (go_at_call 14; refine (HR.out _).mono ?_; rintro e w2 ⟨rfl, b2⟩)
    | (go_at_call 12; refine (awake26_any _).mono ?_; rintro e w3 ⟨rfl, b3⟩))
  go_ret
  exact ⟨rfl, below_next (below_next (below_next HB b1) b2) b3⟩
theorem unflat : ∀ (N : Nat) (l : List UInt8), l.length = 4 * N → ∃ L, flat L = l ∧ L.length = N := by
  intro N
  induction N with
  | zero => intro l h; exact ⟨[], (List.length_eq_zero_iff.1 h).symm, rfl⟩
  | succ N ih =>
    intro l h
    rcases l with _ | ⟨a, _ | ⟨b, _ | ⟨c, _ | ⟨d, t⟩⟩⟩⟩
    · simp at h
    · simp at h; omega
    · simp at h; omega
    · simp at h; omega
    · obtain ⟨L, h1, h2⟩ := ih t (by simp only [List.length_cons] at h; omega)
      exact ⟨⟨a, b, c, d⟩ :: L, by rw [← h1]; rfl, by rw [List.length_cons, h2]⟩
theorem qoiBackRun {W H : Nat} {l : List UInt8} {L : List Qc} (hW : 1 ≤ W ∧ W ≤ 60) (hH : 1 ≤ H ∧ H ≤ 60) (hl : flat L = l) (hL : L.length = W * H) (w : World) :
    Calls Tryz.prog 15 #[.string (strOf (qoiFile W H L)), .agg #[.int .i64 16384, .int .i64 16384, .int .i64 262144, .int .i64 1048576], .func (.func 17) #[] #[]] w fun e w' => ∃ g d, e = .returned (.tuple #[.agg #[.int .i64 (W : Int), .int .i64 (H : Int), .slice (some ⟨d, 0, none⟩) l.length l.length], .agg #[.int .i64 0, .int .i64 0, .int .i64 0], .pointer (some ⟨g, 0, none⟩)]) ∧ BytesAt w' (some ⟨d, 0, none⟩) l.length l ∧ Below w.heap.size w w' := by
  obtain ⟨t, u⟩ := qback_told (L := L) hW hH hL
  have hN : W * H ≤ 60 * 60 := Nat.mul_le_mul hW.2 hH.2
  refine (qoiRunW (s := strOf (qoiFile W H L)) (by rw [strOf_size]; have := qoiFile_len W H L; omega) (by rw [u]; exact hW.2) (by rw [u]; exact hH.2) w).mono ?_
  rintro e w' ⟨g, y, l3, hy, b3, hor⟩
  rw [t, hl] at hor
  rcases hor with ⟨k, a, hk, hr, rfl⟩ | ⟨W', H', l', d, hr, rfl, hb⟩
  · cases hr
  · injection hr with h1 h2 h3
    subst h1 h2 h3
    exact ⟨g, d, rfl, hb, b3⟩
set_option maxRecDepth 100000 in
set_option maxHeartbeats 40000000 in
theorem qoiBack_yes {w : World} {W H n c b off : Nat} {l : List UInt8} (h1 : n ≤ 2000) (hW : 1 ≤ W ∧ W ≤ 60) (hH : 1 ≤ H ∧ H ≤ 60) (hR : RightP W H n) (hl : n = l.length) (hb : BytesAt w (some ⟨b, off, none⟩) n l) (hn0 : 0 < n) (hnc : n ≤ c) :
    Calls Tryz.prog 3 #[.agg #[.int .i64 (W : Int), .int .i64 (H : Int), .slice (some ⟨b, off, none⟩) n c]] w fun e w' => e = .returned (.bool true) ∧ Below w.heap.size w w' := by
  have hI : ¬ (2000 : Int) < (n : Int) := by omega
  have hWI : ¬ (60 : Int) < (W : Int) := by omega
  have hHI : ¬ (60 : Int) < (H : Int) := by omega
  have hll : l.length = 4 * (W * H) := by
    have h := hR.2.2
    rw [← hl]
    have e : (4 * (W : Int) * (H : Int)) = ((4 * (W * H) : Nat) : Int) := by rw [Int.mul_assoc, Int.natCast_mul, Int.natCast_mul]; rfl
    rw [e] at h
    omega
  obtain ⟨L, hL, hLN⟩ := unflat (W * H) l hll
  have hN60 : W * H ≤ 60 * 60 := Nat.mul_le_mul hW.2 hH.2
  obtain ⟨N, hN⟩ : ∃ N, W * H = N := ⟨_, rfl⟩
  obtain ⟨b', off', hab, hnl, hcell, hbw⟩ := bytes_form hb hn0
  clear hnl
  injection hab with hab
  injection hab with hab1 hab2
  subst hab1 hab2
  have HW := Lib.hid (fun w' (k : Below w.heap.size w w') => qoiWrite_yes (w := w') (c := c) hW hH hN hR hl hL (hLN.trans hN) hnc (fun j hj => (k.cell (p := ⟨b, off + j, none⟩) hbw).trans (hcell j hj)) (Nat.lt_of_lt_of_le hbw k.size))
  have HR := Lib.hid (fun w => refRight_bool (a := some ⟨b, off, none⟩) (c := c) (decide_eq_true hR) w)
  have HN := Lib.hid (fun w => qoiBackRun (l := l) (L := L) hW hH hL hLN w)
  have HD0 := fun w => refQoiDecode (s := strOf (qoiFile W H L)) (by rw [strOf_size]; have := qoiFile_len W H L; omega) w
  rw [(qback_told hW hH hLN).1, hL] at HD0
  have HD := Lib.hid HD0
  have HBT := Lib.hid hb
  have HL := Lib.hid hl
  have HNE := Lib.hid hN
  have HN1 : Hid (1 ≤ N) := Lib.hid (by rw [← hN]; exact Nat.mul_le_mul hW.1 hH.1)
  have HNB : Hid (N ≤ 268435456) := Lib.hid (by omega)
  have HZ : Hid (4 * N = n) := Lib.hid (by rw [hl, hll, hN])
  have I0 := IB.new w (W : Int) (H : Int) (some ⟨b, off, none⟩) n c
  have HB : Below w.heap.size w (w.alloc (.cells #[.int .i64 (W : Int), .int .i64 (H : Int), .slice (some ⟨b, off, none⟩) n c] 24)) := (Below.refl _ _).alloc (Nat.le_refl _) _
  clear HD0
  have HLL := Lib.hid hL
  clear hL hLN
  generalize strOf (qoiFile W H L) = F at HW HD HN
  clear hR h1 hW hH hl hll hb hcell hn0 hN hN60 hnc
  go_enter Tryz.func3, Tryz.ntmps3
  go_wp2_with (first
    | (go_at_call 13; refine (HW.out _ HB).mono ?_; rintro e w1 ⟨rfl, b1⟩; have I1 : IB w1 w.heap.size (W : Int) (H : Int) (some ⟨b, off, none⟩) n c := Blk.below I0 b1 (Blk.lt I0); have B1 := below_next HB b1; obtain ⟨e0, e1, e2, v0, v1, v2, il⟩ := IB.all I1)
    | (go_at_call 14; refine (HR.out _).mono ?_; rintro e w2 ⟨rfl, b2⟩; have I2 : IB w2 w.heap.size (W : Int) (H : Int) (some ⟨b, off, none⟩) n c := Blk.below I1 b2 (Blk.lt I1); have B2 := below_next B1 b2)
    | (go_at_call 16; refine (wide15 _).mono ?_; rintro e w3 ⟨rfl, b3⟩; have I3 : IB w3 w.heap.size (W : Int) (H : Int) (some ⟨b, off, none⟩) n c := Blk.below I2 b3 (Blk.lt I2); have B3 := below_next B2 b3)
    | (go_at_call 15; refine (HN.out _).mono ?_; rintro e w4 ⟨g, d, rfl, t4, b4⟩; have I4 : IB w4 w.heap.size (W : Int) (H : Int) (some ⟨b, off, none⟩) n c := Blk.below I3 b4 (Blk.lt I3); have B4 := below_next B3 b4; rw [← HL.out] at t4 ⊢; have B5 := B4.alloc B4.size (.cells #[.int .i64 (W : Int), .int .i64 (H : Int), .slice (some ⟨d, 0, none⟩) n n] 24); have HB6 := B5.alloc B5.size (.cells #[.int .i64 0, .int .i64 0, .int .i64 0] 31); clear e0 e1 e2 v0 v1 v2 il))
  have J6 : IB ((w4.alloc (.cells #[.int .i64 (W : Int), .int .i64 (H : Int), .slice (some ⟨d, 0, none⟩) n n] 24)).alloc (.cells #[.int .i64 0, .int .i64 0, .int .i64 0] 31)) w4.heap.size (W : Int) (H : Int) (some ⟨d, 0, none⟩) n n := Blk.alloc (Blk.new _ _ _) _
  have K6 : FB ((w4.alloc (.cells #[.int .i64 (W : Int), .int .i64 (H : Int), .slice (some ⟨d, 0, none⟩) n n] 24)).alloc (.cells #[.int .i64 0, .int .i64 0, .int .i64 0] 31)) (w4.heap.size + 1) 0 0 0 := Blk.new_at _ _ _ (by simp)
  have I6 : IB ((w4.alloc (.cells #[.int .i64 (W : Int), .int .i64 (H : Int), .slice (some ⟨d, 0, none⟩) n n] 24)).alloc (.cells #[.int .i64 0, .int .i64 0, .int .i64 0] 31)) w.heap.size (W : Int) (H : Int) (some ⟨b, off, none⟩) n c := Blk.alloc (Blk.alloc I4 _) _
  have T6 := (t4.alloc (.cells #[.int .i64 (W : Int), .int .i64 (H : Int), .slice (some ⟨d, 0, none⟩) n n] 24)).alloc (.cells #[.int .i64 0, .int .i64 0, .int .i64 0] 31)
  generalize (w4.alloc (.cells #[.int .i64 (W : Int), .int .i64 (H : Int), .slice (some ⟨d, 0, none⟩) n n] 24)).alloc (.cells #[.int .i64 0, .int .i64 0, .int .i64 0] 31) = w6 at J6 K6 I6 T6 HB6 ⊢
  generalize w4.heap.size + 1 = qf at K6 ⊢
  generalize w4.heap.size = qm at J6 ⊢
  have M6 := HBT.out.below HB6
  clear b1 b2 b3 b4 B1 B2 B3 B4 B5 I0 I1 I2 I3 I4 t4 HB HBT
  refine (HD.out _).mono ?_
  rintro e w5 ⟨b5, v, LL, rfl, own, hfl, hlen⟩
  obtain ⟨gq, cap, rfl, hcap, hq⟩ : ∃ gq cap, v = .slice (some ⟨gq, 0, none⟩) N cap ∧ N ≤ cap ∧ QAt w5 gq 0 LL := by
    have hlN : LL.length = N := hlen.trans HNE.out
    rcases own.form with ⟨_, h⟩ | ⟨gq, cap, h, _, _, h2, h3⟩
    · have := HN1.out
      rw [h] at hlen
      have := HNE.out
      simp at hlen
      omega
    · exact ⟨gq, cap, by rw [h, hlN], by omega, h3⟩
  have b6 : Below w5.heap.size w5 (w5.alloc (.cells #[.int .i64 (W : Int), .int .i64 (H : Int), .slice (some ⟨gq, 0, none⟩) N cap, .int .i64 0, .int .i64 0] 41)) := (Below.refl _ _).alloc (Nat.le_refl _) _
  have R7 : RI (w5.alloc (.cells #[.int .i64 (W : Int), .int .i64 (H : Int), .slice (some ⟨gq, 0, none⟩) N cap, .int .i64 0, .int .i64 0] 41)) w5.heap.size (W : Int) (H : Int) (.slice (some ⟨gq, 0, none⟩) N cap) 0 0 := Blk.new _ _ _
  have K7 : FB (w5.alloc (.cells #[.int .i64 (W : Int), .int .i64 (H : Int), .slice (some ⟨gq, 0, none⟩) N cap, .int .i64 0, .int .i64 0] 41)) qf 0 0 0 := Blk.alloc (FB.below K6 b5) _
  have J7 : IB (w5.alloc (.cells #[.int .i64 (W : Int), .int .i64 (H : Int), .slice (some ⟨gq, 0, none⟩) N cap, .int .i64 0, .int .i64 0] 41)) qm (W : Int) (H : Int) (some ⟨d, 0, none⟩) n n := Blk.alloc (Blk.below J6 b5 (Blk.lt J6)) _
  have I7 : IB (w5.alloc (.cells #[.int .i64 (W : Int), .int .i64 (H : Int), .slice (some ⟨gq, 0, none⟩) N cap, .int .i64 0, .int .i64 0] 41)) w.heap.size (W : Int) (H : Int) (some ⟨b, off, none⟩) n c := Blk.alloc (Blk.below I6 b5 (Blk.lt I6)) _
  have T7 : BytesAt (w5.alloc (.cells #[.int .i64 (W : Int), .int .i64 (H : Int), .slice (some ⟨gq, 0, none⟩) N cap, .int .i64 0, .int .i64 0] 41)) (some ⟨d, 0, none⟩) n l := (T6.below b5).alloc _
  have M7 : BytesAt (w5.alloc (.cells #[.int .i64 (W : Int), .int .i64 (H : Int), .slice (some ⟨gq, 0, none⟩) N cap, .int .i64 0, .int .i64 0] 41)) (some ⟨b, off, none⟩) n l := (M6.below b5).alloc _
  have Q7 : QAt (w5.alloc (.cells #[.int .i64 (W : Int), .int .i64 (H : Int), .slice (some ⟨gq, 0, none⟩) N cap, .int .i64 0, .int .i64 0] 41)) gq 0 LL := hq.below b6
  have B7 := below_next (below_next HB6 b5) b6
  have HLN : Hid (N = LL.length) := Lib.hid (hlen.trans HNE.out).symm
  have HFL := Lib.hid hfl
  clear own hlen hfl hq
  go_upto_region 8 with fail
  generalize w5.alloc (.cells #[.int .i64 (W : Int), .int .i64 (H : Int), .slice (some ⟨gq, 0, none⟩) N cap, .int .i64 0, .int .i64 0] 41) = w7 at R7 K7 J7 I7 T7 M7 Q7 B7 ⊢
  generalize w5.heap.size = qr at R7 ⊢
  clear b5 b6 J6 K6 I6 T6 M6 HB6
  obtain ⟨c0, c1, c2, z0, z1, z2, fl⟩ := FB.all K7
  obtain ⟨d0, d1, d2, d3, d4, y0, y1, y2, y3, y4, dl⟩ := RI.all R7
  obtain ⟨e0, e1, e2, v0, v1, v2, il⟩ := IB.all I7
  obtain ⟨f0, f1, f2, u0, u1, u2, jl⟩ := IB.all J7
  clear z0 z1 z2 y0 y1 y2 y3 y4 v0 v1 v2 u0 u1 u2
  go_region_with (first
    | (go_at_call_of 19 (Value.agg #[.int .i64 (W : Int), .int .i64 (H : Int), .slice (some ⟨d, 0, none⟩) n n]); refine (refSame_bool (w := w7.drew) (same_self _ _ _) T7 M7).mono ?_; rintro e w8 ⟨rfl, b8⟩; have R8 : RI w8 qr (W : Int) (H : Int) (.slice (some ⟨gq, 0, none⟩) N cap) 0 0 := Blk.below (Blk.drew R7) b8 (Blk.lt R7); have I8 : IB w8 w.heap.size (W : Int) (H : Int) (some ⟨b, off, none⟩) n c := Blk.below (Blk.drew I7) b8 (Blk.lt I7); have M8 := BytesAt.below (w := w7.drew) M7 b8; have Q8 := QAt.below (w := w7.drew) Q7 b8; have B8 := below_next B7.drew b8; clear c0 c1 c2 fl d0 d1 d2 d3 d4 dl e0 e1 e2 il f0 f1 f2 jl; obtain ⟨d0, d1, d2, d3, d4, y0, y1, y2, y3, y4, dl⟩ := RI.all R8; obtain ⟨e0, e1, e2, v0, v1, v2, il⟩ := IB.all I8)
    | (go_at_call 20; refine (refPlain HLN.out hcap HNB.out Q8).mono ?_; rintro e w9 ⟨d9, c9, rfl, t9, b9⟩; rw [HFL.out, HZ.out] at t9; have I9 : IB w9 w.heap.size (W : Int) (H : Int) (some ⟨b, off, none⟩) n c := Blk.below I8 b9 (Blk.lt I8); have M9 := M8.below b9; have B9 := below_next B8 b9; rw [HZ.out]; clear d0 d1 d2 d3 d4 dl e0 e1 e2 il; obtain ⟨e0, e1, e2, v0', v1', v2', il⟩ := IB.all I9)
    | (go_at_call 19; refine (refSame_bool (same_self _ _ _) t9 M9).mono ?_; rintro e w10 ⟨rfl, b10⟩; have B10 := below_next B9 b10)
    | (go_at_call 12; refine (awake26_any _).mono ?_; rintro e w11 ⟨rfl, b11⟩))
  all_goals go_wp2_with fail
  all_goals go_ret
  all_goals exact ⟨rfl, below_next B10 b11⟩
theorem qoiBack_said (w : World) (W H : Int) (a : Option Addr) (n c : Nat) (l : List UInt8) (h : fits5 W ∧ fits5 H ∧ BytesAt w a n l ∧ n ≤ c ∧ c ≤ maxLen) :
    Calls Tryz.prog 3 #[.agg #[.int .i64 W, .int .i64 H, .slice a n c]] w fun e w' => e = .returned (.bool true) ∧ Below w.heap.size w w' := by
  by_cases h1 : 2000 < n
  · exact qoiBack_large (.inl h1)
  by_cases h2 : 60 < W
  · exact qoiBack_large (.inr (.inl ⟨by omega, h2⟩))
  by_cases h3 : 60 < H
  · exact qoiBack_large (.inr (.inr ⟨by omega, h2, h3⟩))
  by_cases hR : RightP W H n
  · obtain ⟨W', rfl⟩ : ∃ k : Nat, W = k := ⟨W.toNat, by have := hR.1; omega⟩
    obtain ⟨H', rfl⟩ : ∃ k : Nat, H = k := ⟨H.toNat, by have := hR.2.1; omega⟩
    have hW1 := hR.1.1
    have hH1 := hR.2.1.1
    have hn0 : 0 < n := by
      have e := hR.2.2
      have e2 : (4 * (W' : Int) * (H' : Int)) = ((4 * (W' * H') : Nat) : Int) := by rw [Int.mul_assoc, Int.natCast_mul, Int.natCast_mul]; rfl
      have e3 : 1 ≤ W' * H' := Nat.mul_le_mul (show 1 ≤ W' by omega) (show 1 ≤ H' by omega)
      rw [e2] at e
      omega
    obtain ⟨b, off, rfl, hl, _, _⟩ := bytes_form h.2.2.1 hn0
    exact qoiBack_yes (by omega) ⟨by omega, by omega⟩ ⟨by omega, by omega⟩ hR hl h.2.2.1 hn0 h.2.2.2.1
  · exact qoiBack_no (by omega) h2 h3 hR
end Go.Proofs.YtojobfnbakiicaaGreat
