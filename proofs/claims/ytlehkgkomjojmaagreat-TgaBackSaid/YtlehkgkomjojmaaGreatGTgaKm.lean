/- The document's pixels, in the order of its text; plain. Plain: the pixels of a file of TGA's stand at all places, each at one. Plain: pixels that are read as they were written. Plain: a file of TGA's as it is written, without packets, tells its image. Plain: packets of pixels are read as they were written. Plain: a file of TGA's as it is written, in packets, tells its image. Plain: what a written file tells, with packets or without. Bytes that the call owns, whose row may bear a conversion's mark behind its end; appends to them. -/
import Derived.Test.YtlehkgkomjojmaaGreatGRasWays
import Derived.Test.YtlehkgkomjojmaaGreatGTgaQ
import Derived.Test.YtlehkgkomjojmaaGreatGTgaKd
import Derived.Test.YtlehkgkomjojmaaGreatGTga1
import Derived.Test.YtlehkgkomjojmaaGreatGTgaKw
import Derived.Test.YtlehkgkomjojmaaGreatGWrA
import Derived.Lib.ConvBytes
namespace Go.Proofs.YtlehkgkomjojmaaGreat
open Go.RowKit
set_option linter.unusedVariables false
set_option linter.unusedSimpArgs false

/-- one pixel, or what is wrong -/
def tgaPixE (s : ByteArray) (h : TgaHd) (M : List Qc) (a : Nat) : (Nat × Nat) ⊕ Qc := if a + h.size ≤ s.size then tgaPixel s h M a else .inl (1, s.size)
/-- so many pixels: each read anew, or one read again and again -/
def tgaInR (s : ByteArray) (h : TgaHd) (M : List Qc) (same : Bool) : Nat → Nat → List Qc → (Nat × Nat) ⊕ (Nat × List Qc)
 | 0, a, L => .inr (a, L)
 | n + 1, a, L => match tgaPixE s h M a with
  | .inl g => .inl g
  | .inr q => tgaInR s h M same n (if same = false ∨ n = 0 then a + h.size else a) (L ++ [q])
/-- a packet's head: how many, whether one, and from where -/
def tgaHdR (s : ByteArray) (h : TgaHd) (N a m : Nat) : (Nat × Nat) ⊕ (Nat × Bool × Nat) :=
 if TgaPacked h.typ then (if a + 1 ≤ s.size then (if N - m < bat s a % 128 + 1 then .inl (2, a) else .inr (bat s a % 128 + 1, decide (128 ≤ bat s a), a + 1)) else .inl (1, s.size)) else .inr (1, false, a)
def tgaDocR (s : ByteArray) (h : TgaHd) (M : List Qc) (N : Nat) : Nat → Nat → List Qc → (Nat × Nat) ⊕ (List Qc)
 | 0, a, L => .inr L
 | f + 1, a, L => if N ≤ L.length then .inr L else match tgaHdR s h N a L.length with
  | .inl g => .inl g
  | .inr (c, same, a1) => match tgaInR s h M same c a1 L with
   | .inl g => .inl g
   | .inr (a', L') => tgaDocR s h M N f a' L'
section
variable {s : ByteArray} {h : TgaHd} {M : List Qc}
theorem tgaIn_raw : ∀ n a L, tgaInR s h M false n a L = tgaRawR s h M n a L := by
 intro n
 induction n with
 | zero => intro a L; rfl
 | succ n ih =>
  intro a L
  unfold tgaInR tgaRawR tgaNextR tgaPixE
  by_cases h1 : a + h.size ≤ s.size
  ·rw [if_pos h1, if_pos h1]
   cases tgaPixel s h M a with
   | inl g => rfl
   | inr q =>
    simp only [true_or, if_true]
    exact ih _ _
  ·rw [if_neg h1, if_neg h1]
theorem tgaIn_same : ∀ n a L, tgaInR s h M true (n + 1) a L = tgaNextR s h M (n + 1) a L := by
 intro n
 induction n with
 | zero =>
  intro a L
  unfold tgaInR tgaNextR tgaPixE
  by_cases h1 : a + h.size ≤ s.size
  ·rw [if_pos h1, if_pos h1]
   cases tgaPixel s h M a with
   | inl g => rfl
   | inr q => simp [tgaInR]
  ·rw [if_neg h1, if_neg h1]
 | succ n ih =>
  intro a L
  unfold tgaInR
  rw [tgaPixE]
  unfold tgaNextR
  by_cases h1 : a + h.size ≤ s.size
  ·rw [if_pos h1, if_pos h1]
   cases hq : tgaPixel s h M a with
   | inl g => rfl
   | inr q =>
    have e0 : (if true = false ∨ n + 1 = 0 then a + h.size else a) = a := if_neg (by simp)
    simp only [e0]
    rw [ih]
    unfold tgaNextR
    rw [if_pos h1, hq]
    simp only [List.append_assoc]
    rfl
  ·rw [if_neg h1, if_neg h1]
theorem tgaDoc_pk {N : Nat} (hp : TgaPacked h.typ) : ∀ f a L, tgaDocR s h M N f a L = tgaPkR s h M N f a L := by
 intro f
 induction f with
 | zero => intro a L; rfl
 | succ f ih =>
  intro a L
  unfold tgaDocR tgaPkR tgaHdR
  by_cases h0 : N ≤ L.length
  ·rw [if_pos h0, if_pos h0]
  ·rw [if_neg h0, if_neg h0, if_pos hp]
   by_cases h1 : a + 1 ≤ s.size
   ·rw [if_pos h1, if_pos h1]
    by_cases h2 : N - L.length < bat s a % 128 + 1
    ·rw [if_pos h2, if_pos h2]
    ·rw [if_neg h2, if_neg h2]
     by_cases h3 : 128 ≤ bat s a
     ·rw [if_pos h3]
      simp only [decide_eq_true h3, tgaIn_same, ih]
      cases tgaNextR s h M (bat s a % 128 + 1) (a + 1) L <;> rfl
     ·rw [if_neg h3]
      simp only [decide_eq_false h3, tgaIn_raw, ih]
      cases tgaRawR s h M (bat s a % 128 + 1) (a + 1) L <;> rfl
   ·rw [if_neg h1, if_neg h1]
theorem tgaDoc_raw {N : Nat} (hp : ¬ TgaPacked h.typ) : ∀ f a L, L.length + f = N → tgaDocR s h M N f a L = match tgaRawR s h M f a L with | .inl g => .inl g | .inr (_, L') => .inr L' := by
 intro f
 induction f with
 | zero => intro a L _; rfl
 | succ f ih =>
  intro a L hN
  unfold tgaDocR tgaHdR
  rw [if_neg (by omega), if_neg hp]
  have e1 : tgaInR s h M false 1 a L = tgaNextR s h M 1 a L := by
   rw [tgaIn_raw]
   unfold tgaRawR
   cases tgaNextR s h M 1 a L <;> rfl
  simp only [e1]
  rw [tgaRawR]
  cases hx : tgaNextR s h M 1 a L with
  | inl g => rfl
  | inr p =>
   obtain ⟨a', L'⟩ := p
   refine ih a' L' ?_
   unfold tgaNextR at hx
   split at hx
   ·split at hx
    ·cases hx
    ·cases hx
     rw [List.length_append]
     show L.length + (List.replicate 1 _).length + f = N
     rw [List.length_replicate]; omega
   ·cases hx
end
/-- all pixels, as the document walks them -/
theorem tgaPixR_doc {s : ByteArray} {h : TgaHd} {M : List Qc} {a : Nat} : tgaPixR s h M a = match tgaDocR s h M (h.W * h.H) (h.W * h.H) a [] with | .inl g => .bad g.1 g.2 | .inr L => .img h.W h.H (flat (tgaPerm h L)) := by
 unfold tgaPixR
 by_cases hp : TgaPacked h.typ
 ·rw [if_pos hp, tgaDoc_pk hp]
  cases tgaPkR s h M (h.W * h.H) (h.W * h.H) a [] <;> rfl
 ·rw [if_neg hp, tgaDoc_raw hp _ _ _ (by simp)]
  cases tgaRawR s h M (h.W * h.H) a [] with
  | inl g => rfl
  | inr p => rfl
/-- the first of a perm -/
theorem tgaPerm_take {h : TgaHd} {L : List Qc} {k : Nat} {q : Qc} (hk : L[k]? = some q) : tgaPerm h (L.take (k + 1)) = (tgaPerm h (L.take k)).set (h.place k) q := by
 have hl : k < L.length := (List.getElem?_eq_some_iff.1 hk).1
 have e : L.take (k + 1) = L.take k ++ [q] := by
  rw [List.take_add_one, hk]; rfl
 have e2 : (L.take k).length = k := by rw [List.length_take]; omega
 have e3 := tgaPerm_next h (L.take k) q
 rw [e2] at e3
 rw [e, e3]
/-- a row of colours that is one's own, by what lies there -/
theorem OwnsQ.of_at {w : World} {base g cap : Nat} {L : List Qc} {cs : Array Value} (hb : base ≤ g) (hB : Blk w g 68 cs) (hs : cs.size = cap * 4) (hc : L.length ≤ cap) (hm : cap ≤ maxLen) (hq : QAt w g 0 L) : OwnsQ w base (.slice (some ⟨g, 0, none⟩) L.length cap) L := by
 refine ⟨cq_len L, .inr ⟨g, cap, cs, rfl, hb, hB, hc, hm, hs, ?_⟩⟩
 apply List.ext_getElem?
 intro j
 by_cases hj : j < L.length * 4
 ·rw [List.getElem?_take_of_lt hj, Array.getElem?_toList, ← Blk.cell hB j]
  obtain ⟨qq, hqq⟩ : ∃ qq, L[j / 4]? = some qq := ⟨_, List.getElem?_eq_getElem (show j / 4 < L.length by omega)⟩
  have e := hq (j / 4) _ hqq
  have ej : j / 4 * 4 + j % 4 = j := by omega
  have hcc := cq_at L (j / 4) (j % 4) _ hqq (by omega)
  rw [ej] at hcc
  rw [Nat.zero_add] at e
  have h4 : j % 4 < 4 := by omega
  generalize j % 4 = r at h4 ej hcc
  rw [hcc, ← ej]
  match r, h4 with
  | 0, _ => exact e.1
  | 1, _ => exact e.2.1
  | 2, _ => exact e.2.2.1
  | 3, _ => exact e.2.2.2
 ·rw [List.getElem?_eq_none (by rw [List.length_take]; omega), List.getElem?_eq_none (by rw [cq_len]; omega)]
/-- a pixel, in one form -/
theorem refTgaPixE {w : World} {s : ByteArray} {h : TgaHd} {M : List Qc} {a : Nat} {v : Value} (hh : h.Ok) (RM : RowM w v M) (hM : M.length ≤ 65535) (hs : s.size ≤ 100000) (ha : a ≤ s.size) :
  Calls Tryz.prog 129 #[.string s, .int .i64 (a : Int), tRV h, v] w fun e w' => Below w.heap.size w w' ∧ ∃ (q : Qc) (k i : Nat), e = .returned (.tuple #[q.v, .int .i64 (k : Int), .int .i64 (i : Int)]) ∧ ((k ≠ 0 ∧ tgaPixE s h M a = .inl (k, i)) ∨ (k = 0 ∧ a + h.size ≤ s.size ∧ tgaPixE s h M a = .inr q)) := by
 refine (refTgaPixelC hh RM hM hs ha).mono ?_
 rintro e w' ⟨b, h1 | h1 | h1⟩
 ·obtain ⟨h2, rfl⟩ := h1
  exact ⟨b, ⟨0, 0, 0, 0⟩, 1, s.size, rfl, .inl ⟨by decide, by unfold tgaPixE; rw [if_neg (by omega)]⟩⟩
 ·obtain ⟨h2, h3, rfl⟩ := h1
  exact ⟨b, ⟨0, 0, 0, 0⟩, 2, a, rfl, .inl ⟨by decide, by unfold tgaPixE; rw [if_pos h2, h3]⟩⟩
 ·obtain ⟨h2, q, h3, rfl⟩ := h1
  exact ⟨b, q, 0, 0, rfl, .inr ⟨rfl, h2, by unfold tgaPixE; rw [if_pos h2, h3]⟩⟩
end Go.Proofs.YtlehkgkomjojmaaGreat
namespace Go.Proofs.YtlehkgkomjojmaaGreat
set_option linter.unusedVariables false

theorem TgaHd.place_place {h : TgaHd} (w1 : 1 ≤ h.W) {k : Nat} (hk : k < h.W * h.H) : h.place (h.place k) = k := by
 have q : k / h.W < h.H := Nat.div_lt_of_lt_mul hk
 have r : k % h.W < h.W := Nat.mod_lt _ (by omega)
 have e : k / h.W * h.W + k % h.W = k := by rw [Nat.mul_comm]; exact Nat.div_add_mod k h.W
 unfold TgaHd.place
 generalize k / h.W = y at q e ⊢
 generalize k % h.W = x at r e ⊢
 have hx : (if h.left then h.W - 1 - x else x) < h.W := by split <;> omega
 have d : ((if h.top then y else h.H - 1 - y) * h.W + (if h.left then h.W - 1 - x else x)) / h.W = (if h.top then y else h.H - 1 - y) := by
  rw [Nat.add_comm, Nat.add_mul_div_right _ _ (by omega), Nat.div_eq_of_lt hx, Nat.zero_add]
 have m : ((if h.top then y else h.H - 1 - y) * h.W + (if h.left then h.W - 1 - x else x)) % h.W = (if h.left then h.W - 1 - x else x) := by
  rw [Nat.add_comm, Nat.add_mul_mod_self_right, Nat.mod_eq_of_lt hx]
 rw [d, m]
 have ey : (if h.top then (if h.top then y else h.H - 1 - y) else h.H - 1 - (if h.top then y else h.H - 1 - y)) = y := by
  cases h.top <;> simp <;> omega
 have ex : (if h.left then h.W - 1 - (if h.left then h.W - 1 - x else x) else (if h.left then h.W - 1 - x else x)) = x := by
  cases h.left <;> simp <;> omega
 rw [ey, ex, e]
theorem TgaHd.place_inj {h : TgaHd} (w1 : 1 ≤ h.W) {j k : Nat} (hj : j < h.W * h.H) (hk : k < h.W * h.H) (e : h.place j = h.place k) : j = k := by
 rw [← TgaHd.place_place w1 hj, e, TgaHd.place_place w1 hk]
theorem tgaPerm_at {h : TgaHd} (w1 : 1 ≤ h.W) {L : List Qc} (hL : L.length ≤ h.W * h.H) : ∀ n, n ≤ L.length → ∀ k, k < n → (tgaPerm h (L.take n))[h.place k]? = L[k]? := by
 intro n
 induction n with
 | zero => intro _ k hk; omega
 | succ n ih =>
  intro hn k hk
  have hq : L[n]? = some (L[n]'(by omega)) := List.getElem?_eq_getElem (by omega)
  rw [tgaPerm_take hq]
  by_cases e : k = n
  ·subst e
   rw [List.getElem?_set_self (by rw [tgaPerm_len]; exact TgaHd.place_lt w1 (by omega)), hq]
  ·rw [List.getElem?_set_ne (fun h2 => e (TgaHd.place_inj w1 (by omega) (by omega) h2.symm))]
   exact ih (by omega) k (by omega)
/-- the pixels in their order, by what each place tells -/
theorem tgaPerm_is {h : TgaHd} (w1 : 1 ≤ h.W) {L Q : List Qc} (hL : L.length = h.W * h.H) (hQ : Q.length = h.W * h.H) (hk : ∀ k q, L[k]? = some q → Q[h.place k]? = some q) : tgaPerm h L = Q := by
 apply List.ext_getElem?
 intro j
 by_cases hj : j < h.W * h.H
 ·have hp := TgaHd.place_lt (h := h) w1 hj
  have e := tgaPerm_at (h := h) w1 (L := L) (by omega) L.length (Nat.le_refl _) (h.place j) (by omega)
  rw [List.take_length, TgaHd.place_place w1 hj] at e
  have hq : L[h.place j]? = some (L[h.place j]'(by omega)) := List.getElem?_eq_getElem (by omega)
  have k2 := hk _ _ hq
  rw [TgaHd.place_place w1 hj] at k2
  rw [e, hq, k2]
 ·rw [List.getElem?_eq_none (by rw [tgaPerm_len]; omega), List.getElem?_eq_none (by omega)]
end Go.Proofs.YtlehkgkomjojmaaGreat
namespace Go.Proofs.YtlehkgkomjojmaaGreat
set_option linter.unusedVariables false

theorem tgaPixel_is {s : ByteArray} {h : TgaHd} {a n al : Nat} {q : Qc} (hn : h.depth = n) (hal : h.alpha = al) (hc : n = 8 ∨ TgaCol n) (hm : ¬ h.mapped) (ha : a + h.size ≤ s.size) (hq : tgaPxOf (s.extract a (a + h.size)) n al = q) : tgaPixel s h [] a = .inr q := by
 unfold tgaPixel
 unfold tgaPxOf at hq
 by_cases h8 : n = 8
 ·rw [if_pos h8] at hq
  rw [if_neg (by rw [hn]; exact fun e => e h8), if_pos hm]
  have hz : h.size = 1 := by unfold TgaHd.size; rw [hn, h8]
  have e : bat (s.extract a (a + h.size)) 0 = bat s a := bat_extract s a h.size 0 (by omega)
  rw [e] at hq
  rw [← hq]
  rfl
 ·rw [if_neg h8] at hq
  rw [if_pos (by rw [hn]; exact h8)]
  have hcd : TgaCol h.depth := by rw [hn]; exact hc.resolve_left h8
  rw [← hq, ← hn, ← hal, tgaQb_of hcd ha]
theorem tgaRaw_all {s : ByteArray} {h : TgaHd} : ∀ (Qs : List Qc) (a : Nat) (acc : List Qc), (∀ k q, Qs[k]? = some q → a + (k + 1) * h.size ≤ s.size ∧ tgaPixel s h [] (a + k * h.size) = .inr q) → tgaRawR s h [] Qs.length a acc = .inr (a + Qs.length * h.size, acc ++ Qs) := by
 intro Qs
 induction Qs with
 | nil => intro a acc _; simp [tgaRawR]
 | cons q Qs ih =>
  intro a acc hp
  have h0 := hp 0 q rfl
  simp only [Nat.zero_mul, Nat.add_zero, Nat.zero_add, Nat.one_mul] at h0
  have e1 : tgaNextR s h [] 1 a acc = .inr (a + h.size, acc ++ [q]) := by
   unfold tgaNextR
   rw [if_pos h0.1, h0.2]
   rfl
  show tgaRawR s h [] (Qs.length + 1) a acc = _
  rw [tgaRawR, e1]
  simp only
  rw [ih (a + h.size) (acc ++ [q]) (fun k q' hk => by
   have := hp (k + 1) q' hk
   rw [Nat.add_mul (k + 1), Nat.one_mul, Nat.add_mul k, Nat.one_mul] at this
   rw [Nat.add_mul k, Nat.one_mul]
   refine ⟨by omega, ?_⟩
   rw [show a + h.size + k * h.size = a + (k * h.size + h.size) by omega]
   exact this.2)]
  rw [List.append_assoc, List.length_cons, Nat.add_mul, Nat.one_mul]
  simp only [List.singleton_append]
  rw [show a + h.size + Qs.length * h.size = a + (Qs.length * h.size + h.size) by omega]
/-- texts of one size, one behind the other: where each stands -/
theorem texts_at {s : ByteArray} {z : Nat} : ∀ (L : List ByteArray) (p r : List UInt8), s.data.toList = p ++ (BL L).flatten ++ r → (∀ t ∈ L, t.size = z) → ∀ k t, L[k]? = some t → p.length + (k + 1) * z ≤ s.size ∧ s.extract (p.length + k * z) (p.length + k * z + z) = t := by
 intro L
 induction L with
 | nil => intro p r _ _ k t hk; simp at hk
 | cons t0 L ih =>
  intro p r hs hz k t hk
  have hz0 := hz t0 (List.mem_cons_self ..)
  have hlen : s.size = s.data.toList.length := by rw [list_len]
  cases k with
  | zero =>
   have e0 : t0 = t := by simpa using hk
   subst e0
   have hl : (BL (t0 :: L)).flatten = t0.data.toList ++ (BL L).flatten := by simp [BL]
   rw [hl] at hs
   have htl : t0.data.toList.length = z := by rw [list_len]; exact hz0
   refine ⟨by rw [hlen, hs]; simp only [List.length_append]; omega, ?_⟩
   apply toList_inj
   rw [extract_list', hs]
   simp only [Nat.zero_mul, Nat.add_zero, Nat.add_sub_cancel_left, List.append_assoc]
   rw [List.drop_left, ← htl, List.take_left]
  | succ k =>
   have hl : (BL (t0 :: L)).flatten = t0.data.toList ++ (BL L).flatten := by simp [BL]
   rw [hl] at hs
   have htl : t0.data.toList.length = z := by rw [list_len]; exact hz0
   have := ih (p ++ t0.data.toList) r (by rw [hs]; simp only [List.append_assoc]) (fun t ht => hz t (List.mem_cons_of_mem _ ht)) k t (by simpa using hk)
   rw [List.length_append, htl] at this
   have e : p.length + (k + 1) * z = p.length + z + k * z := by rw [Nat.add_mul, Nat.one_mul]; omega
   have e2 : p.length + (k + 1 + 1) * z = p.length + z + (k + 1) * z := by rw [Nat.add_mul (k + 1), Nat.one_mul]; omega
   rw [e, e2]
   exact this
end Go.Proofs.YtlehkgkomjojmaaGreat
namespace Go.Proofs.YtlehkgkomjojmaaGreat
set_option linter.unusedVariables false

theorem flatK_get (L : List Qc) (i o : Nat) (ho : o < 4) : (flat L)[i * 4 + o]? = (L[i]?).bind fun q => q.list[o]? := by
 induction L generalizing i with
 | nil => simp [flat]
 | cons x L ih =>
  have e : flat (x :: L) = x.list ++ flat L := by simp [flat]
  have hl : x.list.length = 4 := rfl
  rw [e]
  cases i with
  | zero =>
   rw [List.getElem?_append_left (by omega), Nat.zero_mul, Nat.zero_add]
   rfl
  | succ i =>
   rw [List.getElem?_append_right (by omega), hl, show (i + 1) * 4 + o - 4 = i * 4 + o by omega, ih]
   rfl
theorem flatK_ext {m : List UInt8} {L : List Qc} (hl : m.length = 4 * L.length) (h : ∀ i o, i < L.length → o < 4 → m[i * 4 + o]? = (L[i]?).bind fun q => q.list[o]?) : m = flat L := by
 apply List.ext_getElem?
 intro k
 by_cases hk : k < 4 * L.length
 ·have e : k = k / 4 * 4 + k % 4 := by omega
  rw [e, h (k / 4) (k % 4) (by omega) (by omega), flatK_get _ _ _ (by omega)]
 ·rw [List.getElem?_eq_none (by omega), List.getElem?_eq_none (by rw [flat_len]; omega)]
theorem flat_qcAt {l : List UInt8} {N : Nat} (h : l.length = 4 * N) : flat ((List.range N).map (qcAt l)) = l := by
 symm
 refine flatK_ext (by rw [h, List.length_map, List.length_range]) fun i o hi ho => ?_
 rw [List.length_map, List.length_range] at hi
 rw [List.getElem?_map, List.getElem?_range hi]
 have g : l[i * 4 + o]? = some (l.getD (4 * i + o) 0) := by
  rw [show i * 4 + o = 4 * i + o by omega, List.getD_eq_getElem?_getD, List.getElem?_eq_getElem (by omega)]; rfl
 rw [g]
 match o, ho with
 | 0, _ => rfl
 | 1, _ => rfl
 | 2, _ => rfl
 | 3, _ => rfl
/-- the head of a text that is written -/
theorem wrHead {nm : ByteArray} {pk : Bool} {n al W H u x : Nat} {lf tp : Bool} (hmay : TgaMay (n : Int) (al : Int) nm.size) (hW : 1 ≤ W ∧ W ≤ 16384) (hH : 1 ≤ H ∧ H ≤ 16384) (hu : u < 16) (hub : (0 : Int) ≤ (al : Int) → (al : Int) < 16 → (u : Int) = (al : Int)) (hx : u + (if lf then 16 else 0) + (if tp then 32 else 0) = x) :
  tgaHead (tgaBb (tgaBl (nm.size % 256) (tgaTyp pk (n : Int)) W H n x)) = none ∧ tgaHd (tgaBb (tgaBl (nm.size % 256) (tgaTyp pk (n : Int)) W H n x)) = wrHd nm pk n al W H lf tp := by
 obtain ⟨hc1, hal1, hnm⟩ := hmay
 have ht : tgaTyp pk (n : Int) ≤ 255 := by unfold tgaTyp; split <;> split <;> omega
 have hx64 : x < 64 := by rw [← hx]; split <;> split <;> omega
 have hxu : x % 16 = u := by rw [← hx]; split <;> split <;> omega
 have hua : u = al := by have := hub (by omega) (by omega); omega
 have hn8 : n < 256 := by omega
 have hb := tgaBb_bat (tgaBl_lt (m := nm.size % 256) (t := tgaTyp pk (n : Int)) (W := W) (H := H) (q := n) (x := x) (by omega) ht (by omega) (by omega) hn8 (by omega))
 have eW : W % 256 + 256 * (W / 256) = W := by omega
 have eH : H % 256 + 256 * (H / 256) = H := by omega
 have hiff := tgaRight_iff (b := (n : Int)) (al := (al : Int)) (n := nm.size) (m := nm.size % 256) (q := n) (u := u) (x := x) (W := W) (H := H) (pk := pk) (by omega) (by omega) hu hub hW hH hx64 hxu
 constructor
 ·have h1 := (hiff.2 ⟨hc1, hal1, hnm⟩).1
  unfold tgaHead le2
  simp only [hb]
  simp only [tgaBl, List.getD_cons_zero, List.getD_cons_succ, eW, eH]
  exact h1
 ·unfold tgaHd wrHd le2
  simp only [hb]
  have el : decide (x / 16 % 2 = 1) = lf := by
   rw [← hx]
   cases lf <;> cases tp <;> simp <;> omega
  have ep : decide (x / 32 % 2 = 1) = tp := by
   rw [← hx]
   cases lf <;> cases tp <;> simp <;> omega
  have en : nm.size % 256 = nm.size := by omega
  have eu : x % 16 = al := by rw [hxu, hua]
  simp only [tgaBl, List.getD_cons_zero, List.getD_cons_succ, eW, eH, eu, el, ep, en]
  rfl
/-- without packets -/
theorem wrRaw {s nm bb : ByteArray} {n al W H u x : Nat} {lf tp : Bool} {l : List UInt8} {L : List ByteArray} (hmay : TgaMay (n : Int) (al : Int) nm.size) (hW : 1 ≤ W ∧ W ≤ 16384) (hH : 1 ≤ H ∧ H ≤ 16384) (hu : u < 16) (hub : (0 : Int) ≤ (al : Int) → (al : Int) < 16 → (u : Int) = (al : Int)) (hx : u + (if lf then 16 else 0) + (if tp then 32 else 0) = x)
  (hbb : tgaBb (tgaBl (nm.size % 256) (tgaTyp false (n : Int)) W H n x) = bb) (hl : l.length = 4 * (W * H)) (hL : L.length = W * H) (hok : WrOk (wrHd nm false n al W H lf tp) l n al L) (hs : s.data.toList = bb.data.toList ++ nm.data.toList ++ (BL L).flatten) :
  tgaFault s = none ∧ tgaHd s = wrHd nm false n al W H lf tp ∧ (tgaDec s).told = .img W H l := by
 obtain ⟨hd1, hd2⟩ := wrHead (pk := false) (lf := lf) (tp := tp) hmay hW hH hu hub hx
 rw [hbb] at hd1 hd2
 have hb18 : bb.data.toList.length = 18 := by rw [← hbb]; rfl
 have hsz : s.size = 18 + nm.size + (BL L).flatten.length := by
  rw [← list_len, hs, List.length_append, List.length_append, hb18, list_len]
 have hcut : s.extract 0 (0 + 18) = bb := by
  apply toList_inj
  rw [extract_list', hs]
  simp only [List.drop_zero, Nat.add_sub_cancel_left, List.append_assoc]
  rw [← hb18, List.take_left]
 obtain ⟨c1, c2⟩ := tgaHead_cut (s := s) (by omega)
 rw [hcut] at c1 c2
 have hf : tgaFault s = none := by unfold tgaFault; rw [if_neg (by omega), ← c1]; exact hd1
 have hh : tgaHd s = wrHd nm false n al W H lf tp := by rw [← c2]; exact hd2
 refine ⟨hf, hh, ?_⟩
 obtain ⟨hc1, hal1, hnm⟩ := hmay
 have hcol : n = 8 ∨ TgaCol n := by unfold TgaCol; omega
 generalize hg : wrHd nm false n al W H lf tp = h at hok hh
 have gW : h.W = W := by rw [← hg]; rfl
 have gH : h.H = H := by rw [← hg]; rfl
 have gn : h.depth = n := by rw [← hg]; rfl
 have ga : h.alpha = al := by rw [← hg]; rfl
 have gm : h.map = false := by rw [← hg]; rfl
 have gN : h.name = nm.size := by rw [← hg]; rfl
 have gt : h.typ = 2 ∨ h.typ = 3 := by rw [← hg]; show tgaTyp false (n : Int) = 2 ∨ tgaTyp false (n : Int) = 3; unfold tgaTyp; split <;> simp
 have gz : h.size = (n + 7) / 8 := by unfold TgaHd.size; rw [gn]
 have hmp : ¬ h.mapped := by
  intro e
  have := (tgaMapped_iff h).2 e
  omega
 have hpk : ¬ TgaPacked h.typ := by unfold TgaPacked; omega
 rw [tgaDec_told, hf]
 simp only [hh]
 unfold tgaRef tgaMapR
 rw [if_pos (by omega), if_pos gm]
 simp only
 unfold tgaPixR
 rw [if_neg hpk]
 have hall := tgaRaw_all (s := s) (h := h) ((List.range (h.W * h.H)).map fun k => qcAt l (h.place k)) (18 + h.name) [] (fun k q hk => by
  rw [List.getElem?_map] at hk
  by_cases hkN : k < h.W * h.H
  ·rw [List.getElem?_range hkN] at hk
   have e : qcAt l (h.place k) = q := by simpa using hk
   have hkL : k < L.length := by rw [hL, ← gW, ← gH]; exact hkN
   obtain ⟨t, ht⟩ : ∃ t, L[k]? = some t := ⟨_, List.getElem?_eq_getElem hkL⟩
   obtain ⟨o1, o2⟩ := hok k t ht
   have hta := texts_at (s := s) (z := h.size) L (bb.data.toList ++ nm.data.toList) [] (by rw [hs]; simp) (fun t' ht' => by
    obtain ⟨k', hk', rfl⟩ := List.getElem_of_mem ht'
    rw [gz]
    exact (hok k' _ (List.getElem?_eq_getElem hk')).1) k t ht
   rw [List.length_append, hb18, list_len, ← gN] at hta
   refine ⟨hta.1, tgaPixel_is gn ga hcol hmp (by have := hta.1; rw [Nat.add_mul, Nat.one_mul] at this; omega) ?_⟩
   rw [hta.2, o2, e]
  ·rw [List.getElem?_eq_none (by rw [List.length_range]; omega)] at hk
   cases hk)
 rw [List.length_map, List.length_range] at hall
 rw [hall]
 simp only [List.nil_append]
 have hperm : tgaPerm h ((List.range (h.W * h.H)).map fun k => qcAt l (h.place k)) = (List.range (h.W * h.H)).map (qcAt l) := by
  refine tgaPerm_is (by rw [gW]; exact hW.1) (by rw [List.length_map, List.length_range]) (by rw [List.length_map, List.length_range]) fun k q hk => ?_
  rw [List.getElem?_map] at hk
  by_cases hkN : k < h.W * h.H
  ·rw [List.getElem?_range hkN] at hk
   rw [List.getElem?_map, List.getElem?_range (TgaHd.place_lt (by rw [gW]; exact hW.1) hkN)]
   exact hk
  ·rw [List.getElem?_eq_none (by rw [List.length_range]; omega)] at hk
   cases hk
 rw [hperm, flat_qcAt (by rw [gW, gH]; exact hl), gW, gH]
end Go.Proofs.YtlehkgkomjojmaaGreat
namespace Go.Proofs.YtlehkgkomjojmaaGreat
set_option linter.unusedVariables false

theorem bat_mid {s : ByteArray} {p q : List UInt8} {b : UInt8} (hs : s.data.toList = p ++ b :: q) : bat s p.length = b.toNat ∧ p.length + 1 ≤ s.size := by
 constructor
 ·unfold bat nats
  rw [List.getD_eq_getElem?_getD, List.getElem?_map, hs, List.getElem?_append_right (Nat.le_refl _), Nat.sub_self]
  rfl
 ·rw [← list_len, hs, List.length_append, List.length_cons]; omega
theorem map_rep {α β : Type} {L : List α} {t : α} {m : Nat} {c : α → β} (hm : m ≤ L.length) (h : ∀ j, j < m → L[j]? = some t) : (L.take m).map c = List.replicate m (c t) := by
 apply List.ext_getElem?
 intro j
 by_cases hj : j < m
 ·rw [List.getElem?_map, List.getElem?_take_of_lt hj, h j hj, List.getElem?_replicate, if_pos hj]
  rfl
 ·rw [List.getElem?_eq_none (by rw [List.length_map, List.length_take]; omega), List.getElem?_eq_none (by rw [List.length_replicate]; omega)]
theorem tgaPk_all {s : ByteArray} {h : TgaHd} {n al N : Nat} (gn : h.depth = n) (ga : h.alpha = al) (hcol : n = 8 ∨ TgaCol n) (hmp : ¬ h.mapped) : ∀ (f : Nat) (L : List ByteArray) (p r : List UInt8) (acc : List Qc), s.data.toList = p ++ packL (BL L) ++ r → (∀ t ∈ L, t.size = h.size) → acc.length + L.length = N → L.length ≤ f →
  tgaPkR s h [] N f p.length acc = .inr (acc ++ L.map fun t => tgaPxOf t n al) := by
 intro f
 induction f with
 | zero =>
  intro L p r acc hs hz hN hf
  have : L = [] := List.eq_nil_of_length_eq_zero (by omega)
  subst this
  simp [tgaPkR]
 | succ f ih =>
  intro L p r acc hs hz hN hf
  unfold tgaPkR
  by_cases h0 : L = []
  ·subst h0
   rw [if_pos (by simp at hN; omega)]
   simp
  ·have hL1 : 1 ≤ L.length := by cases L <;> simp_all
   rw [if_neg (by omega)]
   have hb1 : 1 ≤ (BL L).length := by rw [BL_len]; exact hL1
   have R := runLen_run (m := 128) (l := BL L) (by decide) hb1
   generalize runLen 128 (BL L) = m at R
   have hmL : m ≤ L.length := by have := R.len; rw [BL_len] at this; exact this
   have hm128 := R.le
   by_cases h1 : 1 < m
   ·rw [packL_run R h1] at hs
    obtain ⟨t0, ht0⟩ : ∃ t0, L[0]? = some t0 := ⟨_, List.getElem?_eq_getElem (by omega)⟩
    have hsame : ∀ j, j < m → L[j]? = some t0 := fun j hj => by rw [← ht0]; exact (BL_get L j 0).1 (R.same j hj)
    have hhd : (BL L).headD [] = t0.data.toList := by
     cases L with
     | nil => simp at hL1
     | cons a L' => simp at ht0; subst ht0; rfl
    rw [hhd, ← BL_drop] at hs
    have hz0 : t0.size = h.size := hz t0 (List.mem_of_getElem? ht0)
    obtain ⟨b1, b2⟩ := bat_mid (s := s) (p := p) (b := UInt8.ofNat (127 + m)) (q := t0.data.toList ++ packL (BL (L.drop m)) ++ r) (by rw [hs]; simp)
    rw [UInt8.toNat_ofNat_of_lt' (by show 127 + m < 256; omega)] at b1
    have hta := texts_at (s := s) (z := h.size) [t0] (p ++ [UInt8.ofNat (127 + m)]) (packL (BL (L.drop m)) ++ r) (by rw [hs]; simp [BL]) (fun t ht => by simp at ht; subst ht; exact hz0) 0 t0 rfl
    simp only [List.length_append, List.length_singleton, Nat.zero_mul, Nat.add_zero, Nat.zero_add, Nat.one_mul] at hta
    rw [if_pos b2, b1, if_neg (by omega), if_pos (by omega)]
    have ec : (127 + m) % 128 + 1 = m := by omega
    rw [ec]
    have hpx : tgaPixel s h [] (p.length + 1) = .inr (tgaPxOf t0 n al) := tgaPixel_is gn ga hcol hmp hta.1 (by rw [hta.2])
    have hnx : tgaNextR s h [] m (p.length + 1) acc = .inr (p.length + 1 + h.size, acc ++ List.replicate m (tgaPxOf t0 n al)) := by
     unfold tgaNextR
     rw [if_pos hta.1, hpx]
    rw [hnx]
    simp only
    have hpl : p.length + 1 + h.size = (p ++ [UInt8.ofNat (127 + m)] ++ t0.data.toList).length := by
     rw [List.length_append, List.length_append, List.length_singleton, list_len, hz0]
    rw [hpl, ih (L.drop m) _ r _ (by rw [hs]; simp) (fun t ht => hz t (List.mem_of_mem_drop ht)) (by rw [List.length_append, List.length_replicate, List.length_drop]; omega) (by rw [List.length_drop]; omega)]
    rw [← map_rep (c := fun t => tgaPxOf t n al) hmL hsame, List.append_assoc, ← List.map_append, List.take_append_drop]
   ·have hm1 : m = 1 := by have := R.pos; omega
    subst hm1
    have Lo := loneLen_lone (m := 128) (l := BL L) (by decide) hb1
    generalize loneLen 128 (BL L) = k at Lo
    have hkL : k ≤ L.length := by have := Lo.len; rw [BL_len] at this; exact this
    have hk1 := Lo.pos
    have hk128 := Lo.le
    rw [packL_lone R Lo, ← BL_take, ← BL_drop] at hs
    obtain ⟨b1, b2⟩ := bat_mid (s := s) (p := p) (b := UInt8.ofNat (k - 1)) (q := (BL (L.take k)).flatten ++ packL (BL (L.drop k)) ++ r) (by rw [hs]; simp)
    rw [UInt8.toNat_ofNat_of_lt' (by show k - 1 < 256; omega)] at b1
    rw [if_pos b2, b1, if_neg (by omega), if_neg (by omega)]
    have ec : (k - 1) % 128 + 1 = k := by omega
    rw [ec]
    have hall := tgaRaw_all (s := s) (h := h) ((L.take k).map fun t => tgaPxOf t n al) (p.length + 1) acc (fun j q hj => by
     rw [List.getElem?_map] at hj
     cases ht : (L.take k)[j]? with
     | none => rw [ht] at hj; cases hj
     | some t =>
      rw [ht] at hj
      have hq : tgaPxOf t n al = q := by simpa using hj
      have hta := texts_at (s := s) (z := h.size) (L.take k) (p ++ [UInt8.ofNat (k - 1)]) (packL (BL (L.drop k)) ++ r) (by rw [hs]; simp) (fun t ht => hz t (List.mem_of_mem_take ht)) j t ht
      rw [List.length_append, List.length_singleton] at hta
      exact ⟨hta.1, tgaPixel_is gn ga hcol hmp (by have := hta.1; rw [Nat.add_mul, Nat.one_mul] at this; omega) (by rw [hta.2, hq])⟩)
    rw [List.length_map, List.length_take, Nat.min_eq_left hkL] at hall
    rw [hall]
    simp only
    have hfl : ((BL (L.take k)).flatten).length = k * h.size := by
     rw [flatten_len (size := h.size) _ (fun x hx => by
      unfold BL at hx
      rw [List.mem_map] at hx
      obtain ⟨t, ht, rfl⟩ := hx
      rw [list_len]
      exact hz t (List.mem_of_mem_take ht)), BL_len, List.length_take, Nat.min_eq_left hkL]
    have hpl : p.length + 1 + k * h.size = (p ++ [UInt8.ofNat (k - 1)] ++ (BL (L.take k)).flatten).length := by
     rw [List.length_append, List.length_append, List.length_singleton, hfl]
    rw [hpl, ih (L.drop k) _ r _ (by rw [hs]; simp) (fun t ht => hz t (List.mem_of_mem_drop ht)) (by rw [List.length_append, List.length_map, List.length_take, List.length_drop]; omega) (by rw [List.length_drop]; omega)]
    rw [List.append_assoc, ← List.map_append, List.take_append_drop]
end Go.Proofs.YtlehkgkomjojmaaGreat
namespace Go.Proofs.YtlehkgkomjojmaaGreat
set_option linter.unusedVariables false

theorem wrPk {s nm bb : ByteArray} {n al W H u x : Nat} {lf tp : Bool} {l : List UInt8} {L : List ByteArray} (hmay : TgaMay (n : Int) (al : Int) nm.size) (hW : 1 ≤ W ∧ W ≤ 16384) (hH : 1 ≤ H ∧ H ≤ 16384) (hu : u < 16) (hub : (0 : Int) ≤ (al : Int) → (al : Int) < 16 → (u : Int) = (al : Int)) (hx : u + (if lf then 16 else 0) + (if tp then 32 else 0) = x)
  (hbb : tgaBb (tgaBl (nm.size % 256) (tgaTyp true (n : Int)) W H n x) = bb) (hl : l.length = 4 * (W * H)) (hL : L.length = W * H) (hok : WrOk (wrHd nm true n al W H lf tp) l n al L) (hs : s.data.toList = bb.data.toList ++ nm.data.toList ++ packL (BL L)) :
  tgaFault s = none ∧ tgaHd s = wrHd nm true n al W H lf tp ∧ (tgaDec s).told = .img W H l := by
 obtain ⟨hd1, hd2⟩ := wrHead (pk := true) (lf := lf) (tp := tp) hmay hW hH hu hub hx
 rw [hbb] at hd1 hd2
 have hb18 : bb.data.toList.length = 18 := by rw [← hbb]; rfl
 have hsz : s.size = 18 + nm.size + (packL (BL L)).length := by
  rw [← list_len, hs, List.length_append, List.length_append, hb18, list_len]
 have hcut : s.extract 0 (0 + 18) = bb := by
  apply toList_inj
  rw [extract_list', hs]
  simp only [List.drop_zero, Nat.add_sub_cancel_left, List.append_assoc]
  rw [← hb18, List.take_left]
 obtain ⟨c1, c2⟩ := tgaHead_cut (s := s) (by omega)
 rw [hcut] at c1 c2
 have hf : tgaFault s = none := by unfold tgaFault; rw [if_neg (by omega), ← c1]; exact hd1
 have hh : tgaHd s = wrHd nm true n al W H lf tp := by rw [← c2]; exact hd2
 refine ⟨hf, hh, ?_⟩
 obtain ⟨hc1, hal1, hnm⟩ := hmay
 have hcol : n = 8 ∨ TgaCol n := by unfold TgaCol; omega
 generalize hg : wrHd nm true n al W H lf tp = h at hok hh
 have gW : h.W = W := by rw [← hg]; rfl
 have gH : h.H = H := by rw [← hg]; rfl
 have gn : h.depth = n := by rw [← hg]; rfl
 have ga : h.alpha = al := by rw [← hg]; rfl
 have gm : h.map = false := by rw [← hg]; rfl
 have gN : h.name = nm.size := by rw [← hg]; rfl
 have gt : h.typ = 10 ∨ h.typ = 11 := by rw [← hg]; show tgaTyp true (n : Int) = 10 ∨ tgaTyp true (n : Int) = 11; unfold tgaTyp; split <;> simp
 have gz : h.size = (n + 7) / 8 := by unfold TgaHd.size; rw [gn]
 have hmp : ¬ h.mapped := by
  intro e
  have := (tgaMapped_iff h).2 e
  omega
 have hpk : TgaPacked h.typ := by unfold TgaPacked; omega
 rw [tgaDec_told, hf]
 simp only [hh]
 unfold tgaRef tgaMapR
 rw [if_pos (by omega), if_pos gm]
 simp only
 unfold tgaPixR
 rw [if_pos hpk]
 have hall := tgaPk_all (s := s) (h := h) (n := n) (al := al) (N := h.W * h.H) gn ga hcol hmp (h.W * h.H) L (bb.data.toList ++ nm.data.toList) [] [] (by rw [hs]; simp) (fun t ht => by
  obtain ⟨k, hk, rfl⟩ := List.getElem_of_mem ht
  rw [gz]
  exact (hok k _ (List.getElem?_eq_getElem hk)).1) (by rw [hL, gW, gH]; simp) (by rw [hL, gW, gH]; exact Nat.le_refl _)
 rw [List.length_append, hb18, list_len, ← gN] at hall
 rw [hall]
 simp only [List.nil_append]
 have hperm : tgaPerm h (L.map fun t => tgaPxOf t n al) = (List.range (h.W * h.H)).map (qcAt l) := by
  refine tgaPerm_is (by rw [gW]; exact hW.1) (by rw [List.length_map, hL, gW, gH]) (by rw [List.length_map, List.length_range]) fun k q hk => ?_
  rw [List.getElem?_map] at hk
  cases ht : L[k]? with
  | none => rw [ht] at hk; cases hk
  | some t =>
   rw [ht] at hk
   have hq : tgaPxOf t n al = q := by simpa using hk
   have hkL : k < L.length := (List.getElem?_eq_some_iff.1 ht).1
   rw [List.getElem?_map, List.getElem?_range (TgaHd.place_lt (by rw [gW]; exact hW.1) (by rw [gW, gH, ← hL]; exact hkL))]
   show some (qcAt l (h.place k)) = some q
   rw [← (hok k t ht).2, hq]
 rw [hperm, flat_qcAt (by rw [gW, gH]; exact hl), gW, gH]
end Go.Proofs.YtlehkgkomjojmaaGreat
namespace Go.Proofs.YtlehkgkomjojmaaGreat
set_option linter.unusedVariables false

theorem packL_len : ∀ (f : Nat) (l : List Bytes), l.length ≤ f → (packL l).length ≤ l.flatten.length + l.length := by
 intro f
 induction f with
 | zero =>
  intro l h
  have : l = [] := List.eq_nil_of_length_eq_zero (by omega)
  subst this
  simp [packL_nil]
 | succ f ih =>
  intro l h
  by_cases h0 : l = []
  ·subst h0; simp [packL_nil]
  ·have h1 : 1 ≤ l.length := by cases l <;> simp_all
   have cut : ∀ k, l.flatten.length = (l.take k).flatten.length + (l.drop k).flatten.length := fun k => by
    rw [← List.length_append, ← List.flatten_append, List.take_append_drop]
   have R := runLen_run (m := 128) (l := l) (by decide) h1
   generalize runLen 128 l = m at R
   have hm := R.len
   have hp := R.pos
   by_cases hm1 : 1 < m
   ·rw [packL_run R hm1]
    have hi := ih (l.drop m) (by rw [List.length_drop]; omega)
    have hf := cut m
    have hd : (l.headD []).length ≤ (l.take m).flatten.length := by
     cases l with
     | nil => simp
     | cons a t =>
      obtain ⟨m', rfl⟩ : ∃ m', m = m' + 1 := ⟨m - 1, by omega⟩
      simp
    rw [List.length_drop] at hi
    simp only [List.length_cons, List.length_append]
    omega
   ·have hm2 : m = 1 := by omega
    subst hm2
    have Lo := loneLen_lone (m := 128) (l := l) (by decide) h1
    generalize loneLen 128 l = k at Lo
    have hk := Lo.len
    have hk1 := Lo.pos
    rw [packL_lone R Lo]
    have hi := ih (l.drop k) (by rw [List.length_drop]; omega)
    have hf := cut k
    rw [List.length_drop] at hi
    simp only [List.length_cons, List.length_append]
    omega
/-- what is written behind the name -/
def wrBody (pk : Bool) (L : List ByteArray) : List UInt8 := if pk then packL (BL L) else (BL L).flatten
theorem wrTells {s nm bb : ByteArray} {pk : Bool} {n al W H u x t : Nat} {lf tp : Bool} {l : List UInt8} {L : List ByteArray} (hmay : TgaMay (n : Int) (al : Int) nm.size) (hW : 1 ≤ W ∧ W ≤ 60) (hH : 1 ≤ H ∧ H ≤ 60) (hu : u < 16) (hub : (0 : Int) ≤ (al : Int) → (al : Int) < 16 → (u : Int) = (al : Int)) (hx : u + (if lf then 16 else 0) + (if tp then 32 else 0) = x)
  (ht : tgaTyp pk (n : Int) = t) (hbb : tgaBb (tgaBl (nm.size % 256) t W H n x) = bb) (hl : l.length = 4 * (W * H)) (hL : L.length = W * H) (hok : WrOk (wrHd nm pk n al W H lf tp) l n al L) (hs : s.data.toList = bb.data.toList ++ nm.data.toList ++ wrBody pk L) :
  (tgaDec s).told = .img W H l ∧ tgaSides s = (W, H, 0) ∧ s.size ≤ 100000 := by
 subst ht
 have hb18 : bb.data.toList.length = 18 := by rw [← hbb]; rfl
 have hz : ∀ y ∈ BL L, y.length = (n + 7) / 8 := fun y hy => by
  unfold BL at hy
  rw [List.mem_map] at hy
  obtain ⟨t, ht, rfl⟩ := hy
  obtain ⟨k, hk, rfl⟩ := List.getElem_of_mem ht
  rw [list_len]
  exact (hok k _ (List.getElem?_eq_getElem hk)).1
 have hfl := flatten_len _ hz
 have hpk := packL_len _ (BL L) (Nat.le_refl _)
 rw [BL_len] at hfl hpk
 have hN : L.length ≤ 3600 := by rw [hL]; exact Nat.mul_le_mul hW.2 hH.2
 have hn4 : (n + 7) / 8 ≤ 4 := by have := hmay.1; omega
 have hfl4 : (BL L).flatten.length ≤ 3600 * 4 := by rw [hfl]; exact Nat.mul_le_mul hN hn4
 have hnm := hmay.2.2
 have hsz : s.size ≤ 100000 := by
  rw [← list_len, hs, List.length_append, List.length_append, hb18, list_len]
  unfold wrBody
  split <;> omega
 have main : tgaFault s = none ∧ tgaHd s = wrHd nm pk n al W H lf tp ∧ (tgaDec s).told = .img W H l := by
  cases pk
  ·exact wrRaw hmay ⟨hW.1, by omega⟩ ⟨hH.1, by omega⟩ hu hub hx hbb hl hL hok hs
  ·exact wrPk hmay ⟨hW.1, by omega⟩ ⟨hH.1, by omega⟩ hu hub hx hbb hl hL hok hs
 obtain ⟨hf, hd, hi⟩ := main
 refine ⟨hi, ?_, hsz⟩
 unfold tgaSides
 rw [hf]
 simp only [hd]
 have hm : ¬ (wrHd nm pk n al W H lf tp).mapped := by
  have gt : (wrHd nm pk n al W H lf tp).typ = 2 ∨ (wrHd nm pk n al W H lf tp).typ = 3 ∨ (wrHd nm pk n al W H lf tp).typ = 10 ∨ (wrHd nm pk n al W H lf tp).typ = 11 := by
   show tgaTyp pk (n : Int) = 2 ∨ tgaTyp pk (n : Int) = 3 ∨ tgaTyp pk (n : Int) = 10 ∨ tgaTyp pk (n : Int) = 11
   unfold tgaTyp
   cases pk <;> split <;> simp
  intro e
  have := (tgaMapped_iff _).2 e
  omega
 rw [if_neg hm]
 rfl
end Go.Proofs.YtlehkgkomjojmaaGreat
namespace Go.Proofs.YtlehkgkomjojmaaGreat
open Go.RowKit
set_option linter.unusedVariables false
set_option linter.unusedSimpArgs false

/-- what is stored where no mark is -/
theorem storeCells_M (P : Program) (g o : Nat) (t : TypeId) (fz : Nat × Nat) : ∀ (vs : List Value) (i : Nat) (cur : Array Value) (w : World), w.heap[g]? = some (.cells cur t fz) → (fz.2 = 0 ∨ cur.size ≤ fz.1) → o + i + vs.length ≤ cur.size → (∀ v ∈ vs, v.oneCell' = true) →
  (storeCells ⟨g, o, none⟩ vs i).run P w = .ok () (w.setRow g (cur.toList.take (o + i) ++ vs ++ cur.toList.drop (o + i + vs.length)).toArray)
 | [], i, cur, w, hg, _, _, _ => by
  simp only [storeCells, List.append_nil, List.length_nil, Nat.add_zero, List.take_append_drop, Array.toArray_toList]
  rw [setRow_self w g cur t fz hg]
  rfl
 | v :: rest, i, cur, w, hg, hfz, hl, h1 => by
  have hi : o + i < cur.size := by simp at hl; omega
  have hadd : (⟨g, o, none⟩ : Addr).add i = ⟨g, o + i, none⟩ := by unfold Addr.add; split <;> simp_all
  have hcell : w.cell? ⟨g, o + i, none⟩ = some cur[o + i] := by simp [World.cell?, hg, hi]
  have hfro : w.frozen? ⟨g, o + i, none⟩ = false := by
   obtain ⟨lo, hi'⟩ := fz
   simp only [World.frozen?, hg, Bool.and_eq_false_iff, decide_eq_false_iff_not]
   simp only at hfz
   omega
  have hst : (store ((⟨g, o, none⟩ : Addr).add i) v).run P w = .ok () (w.setRow g (cur.setIfInBounds (o + i) v)) := by
   rw [hadd, run_store P w _ v _ (h1 v (by simp)), hcell]
   simp [hfro, setCell_eq_setRow w g (o + i) cur t fz v hg]
  have ih := storeCells_M P g o t fz rest (i + 1) (cur.setIfInBounds (o + i) v) (w.setRow g (cur.setIfInBounds (o + i) v)) (setRow_heap w g cur _ t _ hg) (by simpa using hfz) (by simp at hl ⊢; omega) (fun x hx => h1 x (by simp [hx]))
  simp only [storeCells, Sem.run_bind, hst, Result.andThen_ok, ih, setRow_setRow]
  congr 3
  have e := list_seg_step cur.toList (o + i) v rest (by simp at hl ⊢; omega)
  simpa [Array.toList_setIfInBounds, Nat.add_assoc] using e

/-- bytes that the call owns; a mark may stand behind the row's end -/
def OwnsM (w : World) (base : Nat) (v : Value) (l : List UInt8) : Prop :=
 ∃ g cap cur fz, v = .slice (some ⟨g, 0, none⟩) l.length cap ∧ base ≤ g ∧ w.heap[g]? = some (.cells cur 5 fz) ∧ (fz.2 = 0 ∨ cap ≤ fz.1) ∧ l.length ≤ cap ∧ cap ≤ maxLen ∧ cur.size = cap ∧ cur.toList.take l.length = C8 l

theorem OwnsM.lt {w : World} {base : Nat} {v : Value} {l : List UInt8} (h : OwnsM w base v l) : ∀ k, v.ownBlock = some k → base ≤ k ∧ k < w.heap.size := by
 obtain ⟨g, cap, cur, fz, rfl, hb, hg, _⟩ := h
 intro k hk
 simp [Value.ownBlock] at hk
 subst hk
 exact ⟨hb, (Array.getElem?_eq_some_iff.1 hg).1⟩
theorem OwnsM.cells {w : World} {base g n c : Nat} {l : List UInt8} (h : OwnsM w base (.slice (some ⟨g, 0, none⟩) n c) l) : ∀ (j : Nat) (u : Value), (C8 l)[j]? = some u → w.cell? ((⟨g, 0, none⟩ : Addr).add j) = some u := by
 obtain ⟨g', cap, cur, fz, hv, _, hgg, _, _, _, _, htake⟩ := h
 cases hv
 intro j u hu
 have hadd : (⟨g, 0, none⟩ : Addr).add j = ⟨g, j, none⟩ := by unfold Addr.add; split <;> simp_all
 rw [hadd, cell_of_row w g j cur _ fz hgg]
 rw [← htake, List.getElem?_take] at hu
 split at hu
 ·simpa using hu
 ·cases hu
theorem OwnsM.kept {w w' : World} {base : Nat} {v : Value} {l : List UInt8} {row : Option Nat} (h : OwnsM w base v l) (hg : w.grownBy w' row) (hne : v.ownBlock ≠ row) : OwnsM w' base v l := by
 obtain ⟨g, cap, cur, fz, rfl, hb, hgg, r⟩ := h
 refine ⟨g, cap, cur, fz, rfl, hb, ?_, r⟩
 rw [hg.block g (Array.getElem?_eq_some_iff.1 hgg).1 (by simpa [Value.ownBlock] using hne)]
 exact hgg
theorem OwnsM.below_ {w w' : World} {base : Nat} {v : Value} {l : List UInt8} (h : OwnsM w base v l) (hb : Below w.heap.size w w') : OwnsM w' base v l := by
 obtain ⟨g, cap, cur, fz, rfl, h1, hgg, r⟩ := h
 refine ⟨g, cap, cur, fz, rfl, h1, ?_, r⟩
 rw [hb.block g (Array.getElem?_eq_some_iff.1 hgg).1]
 exact hgg
theorem OwnsM.drew {w : World} {base : Nat} {v : Value} {l : List UInt8} (h : OwnsM w base v l) : OwnsM w.drew base v l := h
theorem OwnsM.drewN {w : World} {base : Nat} {v : Value} {l : List UInt8} (h : OwnsM w base v l) (n : Nat) : OwnsM (w.drewN n) base v l := h
theorem OwnsM.below {w w' : World} {base B : Nat} {v : Value} {l : List UInt8} (h : OwnsM w base v l) {a : World} (hb : Below B a w) (hB : B ≤ base) (hg : w.grownBy w' v.ownBlock) : Below B a w' :=
 hb.grown hg (by have := h; obtain ⟨g, cap, cur, fz, rfl, h1, hgg, r⟩ := this; have := (Array.getElem?_eq_some_iff.1 hgg).1; omega) fun k hk => Nat.le_trans hB (h.lt k hk).1

/-- a text's bytes, as the conversion lays them -/
theorem OwnsM.ofBytes (w : World) (s : ByteArray) (hs : s.size ≤ 1000000) : OwnsM (Lib.bytesWorld w 5 s) w.heap.size (.slice (some ⟨w.heap.size, 0, none⟩) s.size (grownCap w s.size 0 5)) s.data.toList := by
 have hge := grownCap_ge w s.size 0 5
 have hcm : grownCap w s.size 0 5 ≤ maxLen := grownCap_le_maxLen w s.size 0 5 (by unfold maxLen; omega)
 have hcs : (Lib.bytesCells w 5 s).size = grownCap w s.size 0 5 := by
  unfold Lib.bytesCells
  have : s.data.size = s.size := rfl
  simp only [Array.size_append, Array.size_map, Array.size_replicate, this]
  omega
 refine ⟨_, _, _, _, by rw [list_len], Nat.le_refl _, Lib.bytesWorld_at_new w _ s, .inr (by rw [hcs]; exact Nat.le_refl _), by rw [list_len]; exact hge, hcm, hcs, ?_⟩
 unfold Lib.bytesCells C8
 have e : (s.data.map fun b => Value.int .u8 (b.toNat : Int)).toList = s.data.toList.map fun b => Value.int .u8 (b.toNat : Int) := Array.toList_map
 rw [Array.toList_append, e]
 have hl : s.data.toList.length = (s.data.toList.map fun b => Value.int .u8 (b.toNat : Int)).length := by rw [List.length_map]
 rw [hl]
 exact List.take_left

section
variable {P : Program} (w : World)
theorem run_append_M (base : Nat) (t tx ty : TypeId) (i : TypeInfo) (ht : P.underlying t = some (.slice 5)) (hi : P.info? 5 = some i) (hz : i.zero = some (.int .u8 0))
  (hsize : i.size = 1) (hby : i.bytes = 1)
  (v : Value) (l : List UInt8) (hown : OwnsM w base v l)
  (x : Value) (m : Nat) (news : List UInt8) (hs : Src P 1 tx x m (C8 news) w)
  (h63 : l.length + m < 1099511627776) (hbase : base ≤ w.heap.size) :
  ∃ v' w', (Builtin.append_ #[t, tx] ty #[v, x]).run P w = .ok v' w' ∧ OwnsM w' base v' (l ++ news) ∧ w.grownBy w' v.ownBlock := by
 have hl : (C8 news).length = m := by simpa using hs.newsLen
 have hl2 : news.length = m := by simpa [C8] using hl
 have hlen : (l ++ news).length = l.length + m := by rw [List.length_append, hl2]
 have hc8 : C8 (l ++ news) = C8 l ++ C8 news := by simp [C8]
 have hcl : (C8 l).length = l.length := by simp [C8]
 have hown' := hown
 obtain ⟨g, cap, cur, fz, rfl, hbg, hg, hfz, hnc, hcm, hcs, htake⟩ := hown
 by_cases hroom : l.length + m ≤ cap
 ·have hst := storeCells_M P g l.length 5 fz (C8 news) 0 cur w hg (by rw [hcs]; exact hfz) (by rw [hl]; omega) hs.one
  simp only [Nat.add_zero] at hst
  have hr : (Builtin.append_ #[t, tx] ty #[.slice (some ⟨g, 0, none⟩) l.length cap, x]).run P w =
    .ok (.slice (some ⟨g, 0, none⟩) (l.length + m) cap) (w.setRow g (cur.toList.take l.length ++ C8 news ++ cur.toList.drop (l.length + (C8 news).length)).toArray) := by
   rcases hs.kind with ⟨e', hk⟩ | hk <;> simp [Builtin.append_, run_underlying ht, run_underlying hk, sizeOf, typeInfo, hi, hsize, hs.len, hroom, hs.cells, Addr.add_lit, hst]
  refine ⟨_, _, hr, ⟨g, cap, _, fz, by rw [hlen], hbg, setRow_heap w g cur _ _ _ hg, hfz, by rw [hlen]; exact hroom, hcm, ?_, ?_⟩, ⟨rfl, rfl, rfl, by simp, fun k _ hk => setRow_other w g k _ (fun e => hk (by simp [Value.ownBlock, e]))⟩⟩
  ·simp only [List.size_toArray, List.length_append, List.length_take, List.length_drop, Array.length_toList]
   omega
  ·show ((cur.toList.take l.length ++ C8 news ++ cur.toList.drop _).toArray).toList.take _ = _
   rw [htake, hc8, hlen, ← hl, ← hcl, ← List.length_append]
   exact List.take_left
 ·have holds := hown'.cells
  have hold := run_firstCells_some (P := P) w.drew 1 l.length ⟨g, 0, none⟩ l.length cap (C8 l) (by rw [hcl, Nat.mul_one]) holds
  rw [← hsize] at hold hs
  have hr := run_append_grow_src (P := P) w t tx ty 5 i (.int .u8 0) ht hi hz (some ⟨g, 0, none⟩) l.length cap (C8 l) hold x m (C8 news) hs (by omega) (by omega) (growslice_fits (by omega) (by rw [hby]; omega))
  have hge := grownCap_ge w (l.length + m) cap 5
  have hcm2 : grownCap w (l.length + m) cap 5 ≤ maxLen := grownCap_le_maxLen w (l.length + m) cap 5 (by unfold maxLen; omega)
  refine ⟨_, _, hr, ⟨w.heap.size, _, _, (0, 0), by rw [hlen], hbase, heap_alloc_new w.drew _, .inl rfl, by rw [hlen]; exact hge, hcm2, ?_, ?_⟩, ⟨rfl, rfl, rfl, by simp, fun k hk _ => Below.heap_alloc w.drew _ k hk⟩⟩
  ·have hz1 : (Value.int IntKind.u8 0).cells.size = 1 := rfl
   simp only [Array.size_append, List.size_toArray, size_zeroCells, hz1, List.length_append, hcl, hl]
   omega
  ·simp only [Array.toList_append]
   rw [hlen, hc8, ← hl, ← hcl, ← List.length_append]
   exact List.take_left
end
/-- append(v, s...) -/
theorem wpList_append_strM {ops : Array Oper} {rest : List Oper} {o : Oper} {a : Act} {Q : Exit → Act → World → Prop} {w : World} (hgd : o.guard = none) (s x : Operand)
  (ho : o.op = .call { callee := .builtin .append, args := #[s, x], argTypes := #[22, 9] })
  (base : Nat) (v : Value) (l : List UInt8) (hs : a.eval s = v) (hown : OwnsM w base v l)
  (r : ByteArray) (hx : a.eval x = .string r) (hlen : l.length + r.size < 1099511627776) (hbase : base ≤ w.heap.size)
  (h : ∀ v' w', OwnsM w' base v' (l ++ r.data.toList) → Below base w w' → wpList Tryz.prog ops Q rest (a.put o.dst v') w') : wpList Tryz.prog ops Q (o :: rest) a w := by
 obtain ⟨i0, hi, hz0, hz1, hz2⟩ := info_parts info8
 refine wpList_plain hgd fun K hK => ?_
 obtain ⟨v', w', hr, h2, h3⟩ := run_append_M (P := Tryz.prog) w base 22 9 o.type i0 Tryz.underlying22 hi hz0 hz1 hz2 v l hown (.string r) r.size r.data.toList (Src.ofString _ Tryz.underlying9 r) hlen hbase
 unfold Oper.wp execOp
 simp only [ho, resolve, invoke, builtin, Sem.run_bind, Sem.run_pure, Result.andThen_ok, List.map_toArray, List.map_cons, List.map_nil, hs, hx, hr]
 exact hK _ _ (h v' w' h2 (hown.below (Below.refl _ _) (Nat.le_refl _) h3))
/-- string(v) -/
theorem run_convert_M {w : World} {base : Nat} {v : Value} {l : List UInt8} (h : OwnsM w base v l) (dst : TypeId) (hd : Tryz.prog.underlying dst = some .string) :
  (convert 22 dst v).run Tryz.prog w = .ok (.string (strOf l)) w := by
 have h' := h
 obtain ⟨g, cap, cur, fz, rfl, _⟩ := h
 exact run_convert_bytes_back w 22 dst 5 _ cap l Tryz.underlying22 Tryz.underlying5 hd fun j hj => h'.cells j _ (by simp [C8, List.getElem?_eq_getElem hj])
theorem wpList_convert_M {ops : Array Oper} {rest : List Oper} {o : Oper} {a : Act} {Q : Exit → Act → World → Prop} {w : World} (hgd : o.guard = none) (x : Operand) (dst : TypeId) (hd : Tryz.prog.underlying dst = some .string)
  (ho : o.op = .convert 22 dst x) (base : Nat) (v : Value) (l : List UInt8) (hx : a.eval x = v) (hown : OwnsM w base v l)
  (h : wpList Tryz.prog ops Q rest (a.put o.dst (.string (strOf l))) w) : wpList Tryz.prog ops Q (o :: rest) a w := by
 refine wpList_plain hgd fun K hK => ?_
 have hrun := run_convert_M hown dst hd
 unfold Oper.wp
 simp [execOp, ho, hx, hrun, Result.andThen]
 exact hK _ _ h
theorem wpList_bytes {ops : Array Oper} {rest : List Oper} {o : Oper} {a : Act} {Q : Exit → Act → World → Prop} {w : World} (hgd : o.guard = none) (x : Operand)
  (ho : o.op = .convert 9 22 x) (s : ByteArray) (hx : a.eval x = .string s) (hs : s.size ≤ 1000000)
  (h : ∀ v' w', OwnsM w' w.heap.size v' s.data.toList → Below w.heap.size w w' → wpList Tryz.prog ops Q rest (a.put o.dst v') w') : wpList Tryz.prog ops Q (o :: rest) a w := by
 refine wpList_plain hgd fun K hK => ?_
 have hrun := Lib.run_convert_string_bytes (P := Tryz.prog) w 9 22 5 s Tryz.underlying9 Tryz.underlying22 Tryz.underlying5
 unfold Oper.wp
 simp [execOp, ho, hx, hrun, Result.andThen]
 exact hK _ _ (h _ _ (OwnsM.ofBytes w s hs) ⟨rfl, rfl, rfl, by rw [Lib.bytesWorld_size]; omega, fun j hj => Lib.bytesWorld_at_old w _ s j hj⟩)
end Go.Proofs.YtlehkgkomjojmaaGreat
