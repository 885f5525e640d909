/- Plain: how a PNM file of bytes is written, and what it tells when it is read. -/
import Derived.Test.YthljhebbblhakaaGreatDoorEPnmEnc
namespace Go.Proofs.YthljhebbblhakaaGreatDoor
set_option linter.unusedVariables false
set_option linter.unusedSimpArgs false

theorem bat_in {s : ByteArray} {pre rest : List Nat} {b : Nat} (hl : nats s = pre ++ b :: rest) : bat s pre.length = b ∧ pre.length < s.size := by
  constructor
  · unfold bat
    rw [hl, List.getD_eq_getElem?_getD, List.getElem?_append_right (Nat.le_refl _)]
    simp
  · have : pre.length < (nats s).length := by rw [hl]; simp
    rw [nats_len] at this
    exact this
theorem rsmpIn {s : ByteArray} {pre rest : List Nat} {x : UInt8} (hl : nats s = pre ++ x.toNat :: rest) : rsmpR s 1 255 pre.length = .inr (x, pre.length + 1) := by
  obtain ⟨h1, h2⟩ := bat_in hl
  unfold rsmpR
  have hb : beN s pre.length 1 = x.toNat := by
    show 0 * 256 + bat s (pre.length + 0) = _
    rw [Nat.add_zero, h1]
    omega
  have hx := u8_le x
  rw [if_pos (by omega), hb, if_neg (by omega), smp_self hx, u8_back]
/-- a pixel's bytes -/
def pxB (K : Nat) (q : Qc) : List UInt8 := if K = 5 then [q.r] else [q.r, q.g, q.b]
def pxBN (K : Nat) (q : Qc) : List Nat := (pxB K q).map UInt8.toNat
theorem rawStep {s : ByteArray} {pre rest : List Nat} {K : Nat} {q : Qc} (hK : K = 5 ∨ K = 6) (hl : nats s = pre ++ (pxBN K q ++ rest)) (hq : mayQ K q) : rpixR s K 1 255 pre.length = .inr (q, (pre ++ pxBN K q).length) := by
  rcases hK with rfl | rfl
  · unfold rpixR
    rw [if_neg (by decide)]
    have l1 : nats s = pre ++ q.r.toNat :: rest := hl
    rw [rsmpIn l1]
    simp only [Out.bind]
    rw [gray_is hq (by decide)]
    congr 2
    unfold pxBN pxB
    simp
  · unfold rpixR
    rw [if_pos rfl]
    have l1 : nats s = pre ++ q.r.toNat :: (q.g.toNat :: q.b.toNat :: rest) := hl
    rw [rsmpIn l1]
    simp only [Out.bind]
    have l2 : nats s = (pre ++ [q.r.toNat]) ++ q.g.toNat :: (q.b.toNat :: rest) := by rw [l1]; simp
    have s2 := rsmpIn l2
    rw [show (pre ++ [q.r.toNat]).length = pre.length + 1 by simp] at s2
    rw [s2]
    simp only [Out.bind]
    have l3 : nats s = (pre ++ [q.r.toNat, q.g.toNat]) ++ q.b.toNat :: rest := by rw [l1]; simp
    have s3 := rsmpIn l3
    rw [show (pre ++ [q.r.toNat, q.g.toNat]).length = pre.length + 1 + 1 by simp] at s3
    rw [s3]
    simp only [Out.bind]
    have hq4 : (⟨q.r, q.g, q.b, 255⟩ : Qc) = q := by
      have := hq.1
      obtain ⟨r, g, b, a⟩ := q
      simp only at this
      subst this
      rfl
    rw [hq4]
    congr 2
    unfold pxBN pxB
    simp
theorem rawRun {s : ByteArray} {W H K : Nat} (hK : K = 5 ∨ K = 6) : ∀ (qs : List Qc) (pre rest : List Nat) (L : List Qc), nats s = pre ++ ((qs.map (pxBN K)).flatten ++ rest) → (∀ q ∈ qs, mayQ K q) →
    pixsR W H (rpixR s K 1 255) qs.length pre.length L = .img W H (flat (L ++ qs))
  | [], pre, rest, L, _, _ => by simp [pixsR]
  | q :: qs, pre, rest, L, hl, hp => by
    have hl' : nats s = pre ++ (pxBN K q ++ ((qs.map (pxBN K)).flatten ++ rest)) := by rw [hl]; simp
    rw [List.length_cons, pixsR, rawStep hK hl' (hp q List.mem_cons_self)]
    show pixsR W H (rpixR s K 1 255) qs.length (pre ++ pxBN K q).length (L ++ [q]) = _
    rw [rawRun hK qs (pre ++ pxBN K q) rest (L ++ [q]) (by rw [hl']; simp) (fun x hx => hp x (List.mem_cons_of_mem _ hx))]
    simp
/-! ### bits -/
/-- a pixel's bit: black is one -/
def bit4 (l : List Qc) (i : Nat) : Nat := match l[i]? with
  | some q => if q.r = 0 then 1 else 0
  | none => 0
theorem bit4_le (l : List Qc) (i : Nat) : bit4 l i ≤ 1 := by
  unfold bit4
  split
  · split <;> decide
  · decide
/-- a byte of a row's bits -/
def pk4 (l : List Qc) (j : Nat) : Nat := bit4 l (8 * j) * 128 + bit4 l (8 * j + 1) * 64 + bit4 l (8 * j + 2) * 32 + bit4 l (8 * j + 3) * 16 + bit4 l (8 * j + 4) * 8 + bit4 l (8 * j + 5) * 4 + bit4 l (8 * j + 6) * 2 + bit4 l (8 * j + 7)
theorem pk4_lt (l : List Qc) (j : Nat) : pk4 l j < 256 := by
  have h0 := bit4_le l (8 * j)
  have h1 := bit4_le l (8 * j + 1)
  have h2 := bit4_le l (8 * j + 2)
  have h3 := bit4_le l (8 * j + 3)
  have h4 := bit4_le l (8 * j + 4)
  have h5 := bit4_le l (8 * j + 5)
  have h6 := bit4_le l (8 * j + 6)
  have h7 := bit4_le l (8 * j + 7)
  unfold pk4
  omega
theorem pk4_bit (l : List Qc) (j k : Nat) (hk : k < 8) : pk4 l j / 2 ^ (7 - k) % 2 = bit4 l (8 * j + k) := by
  have h0 := bit4_le l (8 * j)
  have h1 := bit4_le l (8 * j + 1)
  have h2 := bit4_le l (8 * j + 2)
  have h3 := bit4_le l (8 * j + 3)
  have h4 := bit4_le l (8 * j + 4)
  have h5 := bit4_le l (8 * j + 5)
  have h6 := bit4_le l (8 * j + 6)
  have h7 := bit4_le l (8 * j + 7)
  unfold pk4
  have hk8 : k = 0 ∨ k = 1 ∨ k = 2 ∨ k = 3 ∨ k = 4 ∨ k = 5 ∨ k = 6 ∨ k = 7 := by omega
  rcases hk8 with rfl | rfl | rfl | rfl | rfl | rfl | rfl | rfl <;> simp only [Nat.add_zero, Nat.sub_self, Nat.sub_zero, Nat.reducePow, Nat.reduceSub] <;> omega
/-- a row's bytes of bits -/
def row4N (l : List Qc) : List Nat := (List.range ((l.length + 7) / 8)).map (pk4 l)
theorem row4N_len (l : List Qc) : (row4N l).length = (l.length + 7) / 8 := by unfold row4N; simp
theorem bitQ_in {l : List Qc} {i : Nat} {q : Qc} (h : l[i]? = some q) (hq : mayQ 4 q) : bitQ (pk4 l (i / 8)) (i % 8) = q := by
  unfold bitQ
  rw [pk4_bit _ _ _ (Nat.mod_lt _ (by decide)), show 8 * (i / 8) + i % 8 = i by omega]
  have e : UInt8.ofNat (255 * (1 - bit4 l i)) = q.r := by
    unfold bit4
    rw [h]
    rcases hq.2.2 (.inr rfl) with e | e <;> simp only [e] <;> rfl
  rw [e, gray_is hq (by decide)]
/-- a row of bits is read -/
theorem bitsRow {s : ByteArray} {W H fr r : Nat} {row : List Qc} (hr : r = (W + 7) / 8) (hrow : row.length = W) (hs : ∀ j, j < r → bat s (fr + j) = pk4 row j ∧ fr + j < s.size) (hq : ∀ q ∈ row, mayQ 4 q) : ∀ (m x n : Nat) (t : Nat × Nat × Nat) (L : List Qc), x + m = W → BIn s W fr r x t →
    ∃ t', BIn s W fr r W t' ∧ pixsR W H (bpixR s W) (m + n) t L = pixsR W H (bpixR s W) n t' (L ++ row.drop x)
  | 0, x, n, t, L, hx, hB => by
    obtain rfl : x = W := by omega
    refine ⟨t, hB, ?_⟩
    rw [Nat.zero_add, List.drop_eq_nil_of_le (by omega), List.append_nil]
  | m + 1, x, n, t, L, hx, hB => by
    have hxW : x < W := by omega
    have hj : x / 8 < r := by omega
    obtain ⟨hb, hin⟩ := hs _ hj
    obtain ⟨q, hqx⟩ : ∃ q, row[x]? = some q := ⟨row[x]'(by omega), List.getElem?_eq_getElem (by omega)⟩
    rcases bst_step hr hxW hB with ⟨_, t', hp, hB'⟩ | ⟨hout, _⟩
    · rw [hb, bitQ_in hqx (hq q (List.mem_of_getElem? hqx))] at hp
      obtain ⟨t2, hB2, h2⟩ := bitsRow (H := H) hr hrow hs hq m (x + 1) n t' (L ++ [q]) (by omega) hB'
      refine ⟨t2, hB2, ?_⟩
      rw [show m + 1 + n = (m + n) + 1 by omega, pixsR, hp]
      show pixsR W H (bpixR s W) (m + n) t' (L ++ [q]) = _
      rw [h2, List.append_assoc]
      congr 2
      have hd : row.drop x = row[x]'(by omega) :: row.drop (x + 1) := List.drop_eq_getElem_cons (by omega)
      rw [hd]
      have hq2 : row[x]'(by omega) = q := by rw [List.getElem?_eq_getElem (by omega)] at hqx; exact Option.some.inj hqx
      rw [hq2]
      rfl
    · exact absurd hin (by omega)
theorem bat_row {s : ByteArray} {pre rest : List Nat} {row : List Qc} (hl : nats s = pre ++ (row4N row ++ rest)) (j : Nat) (hj : j < (row.length + 7) / 8) : bat s (pre.length + j) = pk4 row j ∧ pre.length + j < s.size := by
  have hjl : j < (row4N row).length := by rw [row4N_len]; exact hj
  constructor
  · unfold bat
    rw [hl, List.getD_eq_getElem?_getD, List.getElem?_append_right (by omega), show pre.length + j - pre.length = j by omega, List.getElem?_append_left hjl]
    unfold row4N
    simp [hj]
  · have : pre.length + j < (nats s).length := by rw [hl]; simp; omega
    rw [nats_len] at this
    exact this
theorem bitsRows {s : ByteArray} {W H : Nat} (hW : 1 ≤ W) : ∀ (rows : List (List Qc)) (pre rest : List Nat) (t : Nat × Nat × Nat) (L : List Qc), nats s = pre ++ ((rows.map row4N).flatten ++ rest) → (∀ r ∈ rows, r.length = W ∧ ∀ q ∈ r, mayQ 4 q) → BSt s pre.length 0 t →
    pixsR W H (bpixR s W) rows.flatten.length t L = .img W H (flat (L ++ rows.flatten))
  | [], pre, rest, t, L, _, _, _ => by simp [pixsR]
  | row :: rows, pre, rest, t, L, hl, hp, hB => by
    obtain ⟨hrl, hq⟩ := hp row List.mem_cons_self
    have hl' : nats s = pre ++ (row4N row ++ ((rows.map row4N).flatten ++ rest)) := by rw [hl]; simp
    obtain ⟨t', hB', h⟩ := bitsRow (H := H) (r := (W + 7) / 8) (row := row) rfl hrl (fun j hj => bat_row hl' j (by rw [hrl]; exact hj)) hq W 0 rows.flatten.length t L (by omega) (BIn.row hW hB)
    rw [show (row :: rows).flatten.length = W + rows.flatten.length by simp [hrl], h, List.drop_zero]
    have hz : pre.length + (W + 7) / 8 = (pre ++ row4N row).length := by rw [List.length_append, row4N_len, hrl]
    have hB2 := hB'.2 rfl
    rw [hz] at hB2
    rw [bitsRows hW rows (pre ++ row4N row) rest t' (L ++ row) (by rw [hl']; simp) (fun r hr => hp r (List.mem_cons_of_mem _ hr)) hB2]
    simp
end Go.Proofs.YthljhebbblhakaaGreatDoor
