/- Plain: how a PNM file is written, and what it tells when it is read. -/
import Derived.Test.YthljhebbblhakaaGreatDoorEPnmBst
import Derived.Lib.ItoaNum
namespace Go.Proofs.YthljhebbblhakaaGreatDoor
set_option linter.unusedVariables false
set_option linter.unusedSimpArgs false

/-- a number's digits -/
def dg (n : Nat) : List UInt8 := Lib.decDigits n
def dN (n : Nat) : List Nat := (dg n).map UInt8.toNat
theorem dg_small {n : Nat} (h : n < 10) : dg n = [UInt8.ofNat (48 + n)] := Lib.decDigits_one h
theorem dg_big {n : Nat} (h : ¬ n < 10) : dg n = dg (n / 10) ++ [UInt8.ofNat (48 + n % 10)] := by unfold dg; rw [Lib.decDigits.eq_def, dif_neg h]
theorem dN_small {n : Nat} (h : n < 10) : dN n = [48 + n] := by
  unfold dN
  rw [dg_small h]
  simp only [List.map_cons, List.map_nil]
  rw [UInt8.toNat_ofNat', Nat.mod_eq_of_lt (by omega)]
theorem dN_big {n : Nat} (h : ¬ n < 10) : dN n = dN (n / 10) ++ [48 + n % 10] := by
  unfold dN
  rw [dg_big h, List.map_append]
  simp only [List.map_cons, List.map_nil]
  rw [UInt8.toNat_ofNat', Nat.mod_eq_of_lt (show 48 + n % 10 < 2 ^ 8 by omega)]
theorem dN_some : ∀ n : Nat, ∃ c r, dN n = c :: r ∧ isDigit c = true
  | n => by
    by_cases h : n < 10
    · exact ⟨48 + n, [], dN_small h, by unfold isDigit; rw [decide_eq_true (by omega)]⟩
    · obtain ⟨c, r, e, hd⟩ := dN_some (n / 10)
      exact ⟨c, r ++ [48 + n % 10], by rw [dN_big h, e]; rfl, hd⟩
termination_by n => n
theorem dg_len (n : Nat) : (dN n).length = (dg n).length := by unfold dN; rw [List.length_map]
/-- a row of digits in front -/
theorem digs_front : ∀ (ds : List Nat) (rest : List Nat) (v : Nat), (∀ c ∈ ds, isDigit c = true) → digN (ds ++ rest) = ds.length + digN rest ∧ digV v (ds ++ rest) = digV (digV v ds) rest
  | [], rest, v, _ => ⟨by simp, rfl⟩
  | c :: ds, rest, v, h => by
    have hc := h c List.mem_cons_self
    obtain ⟨h1, h2⟩ := digs_front ds rest (up v c) (fun x hx => h x (List.mem_cons_of_mem _ hx))
    simp only [List.cons_append, digN, digV, List.length_cons]
    rw [if_pos hc, if_pos hc, if_pos hc, h1, h2]
    exact ⟨by omega, rfl⟩
theorem dN_val : ∀ n : Nat, n ≤ 1000000000 → (∀ c ∈ dN n, isDigit c = true) ∧ digV 0 (dN n) = n
  | n, hn => by
    by_cases h : n < 10
    · rw [dN_small h]
      have hd : isDigit (48 + n) = true := by unfold isDigit; rw [decide_eq_true (by omega)]
      refine ⟨fun c hc => ?_, ?_⟩
      · rw [List.mem_singleton] at hc
        rw [hc]; exact hd
      · simp only [digV]
        rw [if_pos hd]
        unfold up
        omega
    · obtain ⟨h1, h2⟩ := dN_val (n / 10) (by omega)
      have hd : isDigit (48 + n % 10) = true := by unfold isDigit; rw [decide_eq_true (by omega)]
      rw [dN_big h]
      refine ⟨fun c hc => ?_, ?_⟩
      · rcases List.mem_append.1 hc with hc | hc
        · exact h1 c hc
        · rw [List.mem_singleton] at hc
          rw [hc]; exact hd
      · rw [(digs_front _ _ _ h1).2, h2]
        simp only [digV]
        rw [if_pos hd]
        unfold up
        omega
termination_by n => n
theorem dig_none {rest : List Nat} (hr : ∀ c r, rest = c :: r → isDigit c = false) (v : Nat) : digN rest = 0 ∧ digV v rest = v := by
  cases rest with
  | nil => exact ⟨rfl, rfl⟩
  | cons c r =>
    have := hr c r rfl
    simp only [digN, digV]
    rw [if_neg (by rw [this]; decide), if_neg (by rw [this]; decide)]
    exact ⟨rfl, rfl⟩
/-- a number behind a blank -/
theorem numAt {l pre rest : List Nat} {b n : Nat} (hl : l = pre ++ b :: (dN n ++ rest)) (hb : isBlank b = true) (hr : ∀ c r, rest = c :: r → isDigit c = false) (hn : n ≤ 1000000000) : numberAt l pre.length = ⟨n, pre.length + 1, pre.length + 1 + (dN n).length, 0, 0⟩ := by
  have hd : l.drop pre.length = b :: (dN n ++ rest) := by rw [hl]; simp
  have hd1 : l.drop (pre.length + 1) = dN n ++ rest := by
    rw [← List.drop_drop, hd]
    rfl
  obtain ⟨c, r, hc, hcd⟩ := dN_some n
  have hlen : pre.length + 1 < l.length := by rw [hl, hc]; simp
  have hg : l.getD (pre.length + 1) 0 = c := by
    have h := drop_at hlen
    rw [hd1, hc] at h
    injection h with h1
    exact h1.symm
  have b35 : b ≠ 35 := by intro h; rw [h] at hb; exact absurd hb (by decide)
  have c35 : c ≠ 35 := by intro h; rw [h] at hcd; exact absurd hcd (by decide)
  have cb : isBlank c = false := by
    unfold isDigit at hcd
    unfold isBlank
    rw [decide_eq_true_iff] at hcd
    rw [decide_eq_false (by omega)]
  have ho : overN false (l.drop pre.length) = 1 := by
    rw [hd]
    simp only [overN]
    rw [if_neg b35, if_pos hb, hc]
    simp only [List.cons_append, overN]
    rw [if_neg c35, if_neg (by rw [cb]; decide)]
  obtain ⟨h1, h2⟩ := dN_val n hn
  obtain ⟨h3, h4⟩ := digs_front (dN n) rest 0 h1
  obtain ⟨h5, h6⟩ := dig_none hr n
  unfold numberAt
  simp only
  rw [ho, if_neg (by omega), hg, if_pos hcd, hd1, h3, h4, h2, h5, h6]
  rfl
/-- one digit behind a blank -/
theorem digAt {l pre rest : List Nat} {b n : Nat} (hl : l = pre ++ b :: (48 + n) :: rest) (hb : isBlank b = true) (hn : n ≤ 1) : digitAt l pre.length = ⟨n, pre.length + 1, pre.length + 2, 0, 0⟩ := by
  have hd : l.drop pre.length = b :: (48 + n) :: rest := by rw [hl]; simp
  have hd1 : l.drop (pre.length + 1) = (48 + n) :: rest := by
    rw [← List.drop_drop, hd]
    rfl
  have hlen : pre.length + 1 < l.length := by rw [hl]; simp
  have hg : l.getD (pre.length + 1) 0 = 48 + n := by
    have h := drop_at hlen
    rw [hd1] at h
    injection h with h1
    exact h1.symm
  have b35 : b ≠ 35 := by intro h; rw [h] at hb; exact absurd hb (by decide)
  have cb : isBlank (48 + n) = false := by unfold isBlank; rw [decide_eq_false (by omega)]
  have ho : overN false (l.drop pre.length) = 1 := by
    rw [hd]
    simp only [overN]
    rw [if_neg b35, if_pos hb, if_neg (by omega), if_neg (by rw [cb]; decide)]
  unfold digitAt
  simp only
  rw [ho, if_neg (by omega), hg, if_pos (by omega)]
  simp
/-! ### the head -/
def hdrL (K W H : Nat) : List UInt8 := [80, UInt8.ofNat (48 + K), 10] ++ dg W ++ [32] ++ dg H ++ [10] ++ (if K = 1 ∨ K = 4 then [] else [50, 53, 53, 10])
def hdrN (K W H : Nat) : List Nat := [80, 48 + K] ++ 10 :: (dN W ++ 32 :: (dN H ++ 10 :: (if K = 1 ∨ K = 4 then [] else [50, 53, 53, 10])))
theorem hdrN_is {K W H : Nat} (hK : K ≤ 6) : (hdrL K W H).map UInt8.toNat = hdrN K W H := by
  unfold hdrL hdrN dN
  have hk : 48 + K < 256 := by omega
  by_cases h : K = 1 ∨ K = 4
  · simp [h, hk]
  · simp [h, hk]
theorem dN_255 : dN 255 = [50, 53, 53] := by
  rw [dN_big (by decide), dN_big (n := 255 / 10) (by decide), dN_small (by decide)]
  rfl
/-- where a file's pixels begin -/
def encAt (K W H : Nat) : Nat := if K ≤ 3 then (hdrL K W H).length - 1 else (hdrL K W H).length
theorem hdr_len (K W H : Nat) : (hdrL K W H).length = 5 + (dN W).length + (dN H).length + (if K = 1 ∨ K = 4 then 0 else 4) := by
  unfold hdrL
  rw [dg_len, dg_len]
  by_cases h : K = 1 ∨ K = 4
  · simp [h]; omega
  · simp [h]; omega
theorem hnum_ok {l : List Nat} {a most above V f n : Nat} (h : numberAt l a = ⟨V, f, n, 0, 0⟩) (h0 : V ≠ 0) (hm : V ≤ most) : hnum l a most above = ⟨V, 0, n, 0, 0⟩ := by
  unfold hnum
  simp only [h]
  rw [if_neg (by simp), if_neg h0, if_neg (by omega)]
theorem headEnc {l body : List Nat} {K W H : Nat} (hK : 1 ≤ K ∧ K ≤ 6) (hW : 1 ≤ W ∧ W ≤ 16384) (hH : 1 ≤ H ∧ H ≤ 16384) (hl : l = hdrN K W H ++ body) : headAt l = ⟨K, W, H, if K = 1 ∨ K = 4 then 1 else 255, encAt K W H, 0, 0⟩ := by
  have hlen2 : 2 ≤ l.length := by rw [hl]; unfold hdrN; simp
  have g0 : l.getD 0 0 = 80 := by rw [hl]; rfl
  have g1 : l.getD 1 0 = 48 + K := by rw [hl]; rfl
  unfold headAt
  rw [if_neg (by omega), g0, if_neg (by simp), if_neg (by omega), g1, if_neg (by omega), show 48 + K - 48 = K by omega]
  obtain ⟨tail, htail⟩ : ∃ tail, 10 :: ((if K = 1 ∨ K = 4 then [] else [50, 53, 53, 10]) ++ body) = tail := ⟨_, rfl⟩
  have e1 : l = [80, 48 + K] ++ 10 :: (dN W ++ (32 :: (dN H ++ tail))) := by
    rw [hl, ← htail]
    unfold hdrN
    simp
  have n1 := numAt e1 (by decide) (fun c r h => by injection h with h1; rw [← h1]; decide) (by omega)
  have e2 : l = ([80, 48 + K, 10] ++ dN W) ++ 32 :: (dN H ++ tail) := by rw [e1]; simp
  have n2 := numAt e2 (by decide) (fun c r h => by rw [← htail] at h; injection h with h1; rw [← h1]; decide) (by omega)
  have a1 : ([80, 48 + K, 10] ++ dN W).length = 2 + 1 + (dN W).length := by simp; omega
  rw [a1] at n2
  simp only [show ([80, 48 + K] : List Nat).length = 2 from rfl] at n1
  unfold hsides hrest1
  simp only [hnum_ok (most := 16384) (above := 3) n1 (by omega) (by omega)]
  rw [if_neg (by simp)]
  unfold hrest2
  simp only [hnum_ok (most := 16384) (above := 3) n2 (by omega) (by omega)]
  rw [if_neg (by simp)]
  unfold hmost
  by_cases h14 : K = 1 ∨ K = 4
  · rw [if_pos h14, if_pos h14]
    rw [if_pos h14] at htail
    have hb : l = ([80, 48 + K, 10] ++ dN W ++ [32] ++ dN H) ++ 10 :: body := by rw [e2, ← htail]; simp
    have hle : ([80, 48 + K, 10] ++ dN W ++ [32] ++ dN H).length = 2 + 1 + (dN W).length + 1 + (dN H).length := by simp; omega
    have hge : l.getD (2 + 1 + (dN W).length + 1 + (dN H).length) 0 = 10 := by
      rw [← hle, hb, List.getD_eq_getElem?_getD, List.getElem?_append_right (Nat.le_refl _)]
      simp
    have hln : 2 + 1 + (dN W).length + 1 + (dN H).length < l.length := by rw [← hle, hb]; simp
    unfold hfin encAt
    rw [hdr_len, if_pos h14]
    by_cases h4 : 4 ≤ K
    · rw [if_pos h4, if_neg (by omega), hge, if_pos (by decide), if_neg (by omega)]
      congr 1
      omega
    · rw [if_neg h4, if_pos (by omega)]
      congr 1
      omega
  · rw [if_neg h14, if_neg h14]
    rw [if_neg h14] at htail
    have e3 : l = ([80, 48 + K, 10] ++ dN W ++ [32] ++ dN H) ++ 10 :: (dN 255 ++ 10 :: body) := by rw [e2, ← htail, dN_255]; simp
    have hle : ([80, 48 + K, 10] ++ dN W ++ [32] ++ dN H).length = 2 + 1 + (dN W).length + 1 + (dN H).length := by simp; omega
    have n3 := numAt e3 (by decide) (fun c r h => by injection h with h1; rw [← h1]; decide) (by omega)
    rw [hle] at n3
    simp only [hnum_ok (most := 65535) (above := 2) n3 (by omega) (by omega)]
    rw [if_neg (by simp)]
    have l3 : (dN 255).length = 3 := by rw [dN_255]; rfl
    rw [l3]
    have hb : l = ([80, 48 + K, 10] ++ dN W ++ [32] ++ dN H ++ [10, 50, 53, 53]) ++ 10 :: body := by rw [e3, dN_255]; simp
    have hle4 : ([80, 48 + K, 10] ++ dN W ++ [32] ++ dN H ++ [10, 50, 53, 53]).length = 2 + 1 + (dN W).length + 1 + (dN H).length + 1 + 3 := by simp; omega
    have hge : l.getD (2 + 1 + (dN W).length + 1 + (dN H).length + 1 + 3) 0 = 10 := by
      rw [← hle4, hb, List.getD_eq_getElem?_getD, List.getElem?_append_right (Nat.le_refl _)]
      simp
    have hln : 2 + 1 + (dN W).length + 1 + (dN H).length + 1 + 3 < l.length := by rw [← hle4, hb]; simp
    unfold hfin encAt
    rw [hdr_len, if_neg h14]
    by_cases h4 : 4 ≤ K
    · rw [if_pos h4, if_neg (by omega), hge, if_pos (by decide), if_neg (by omega)]
      congr 1
      omega
    · rw [if_neg h4, if_pos (by omega)]
      congr 1
      omega
/-! ### the pixels -/
/-- a pixel that can be written, of a kind -/
def mayQ (K : Nat) (q : Qc) : Prop := q.a = 255 ∧ (K ≠ 3 ∧ K ≠ 6 → q.r = q.g ∧ q.g = q.b) ∧ (K = 1 ∨ K = 4 → q.r = 0 ∨ q.r = 255)
theorem gray_is {K : Nat} {q : Qc} (h : mayQ K q) (hK : K ≠ 3 ∧ K ≠ 6) : grayQ q.r = q := by
  obtain ⟨h1, h2, _⟩ := h
  obtain ⟨e1, e2⟩ := h2 hK
  obtain ⟨r, g, b, a⟩ := q
  simp only at h1 e1 e2
  subst h1 e1 e2
  rfl
theorem smp_self {t : Nat} (ht : t ≤ 255) : smp8 t 255 = UInt8.ofNat t := by
  unfold smp8
  rw [show ((255 : Nat) : Int) = 255 from rfl, sround_self]
  rfl
/-- a pixel as text, behind a blank -/
def pxN (K b : Nat) (q : Qc) : List Nat := if K = 1 then [b, 48 + (1 - q.r.toNat / 255)] else if K = 3 then b :: (dN q.r.toNat ++ 32 :: (dN q.g.toNat ++ 32 :: dN q.b.toNat)) else b :: dN q.r.toNat
theorem u8_le (x : UInt8) : x.toNat ≤ 255 := by have := x.toNat_lt; omega
theorem u8_back (x : UInt8) : UInt8.ofNat x.toNat = x := by simp
theorem smpText {s : ByteArray} {pre rest : List Nat} {b t : Nat} (hl : nats s = pre ++ b :: (dN t ++ rest)) (hb : isBlank b = true) (hr : ∀ c r, rest = c :: r → isDigit c = false) (ht : t ≤ 255) : smpR s 255 pre.length = .inr (UInt8.ofNat t, pre.length + 1 + (dN t).length) := by
  have h := numAt hl hb hr (by omega)
  unfold smpR
  rw [h]
  simp only [ne_eq, not_true_eq_false, if_false]
  rw [if_neg (by omega), smp_self ht]
theorem textStep {s : ByteArray} {pre rest : List Nat} {K b M : Nat} {q : Qc} (hK : 1 ≤ K ∧ K ≤ 3) (hM : K ≠ 1 → M = 255) (hl : nats s = pre ++ (pxN K b q ++ rest)) (hb : isBlank b = true) (hr : ∀ c r, rest = c :: r → isDigit c = false) (hq : mayQ K q) : tpixR s K M pre.length = .inr (q, (pre ++ pxN K b q).length) := by
  have hk : K = 1 ∨ K = 2 ∨ K = 3 := by omega
  have n32 : ∀ (x : List Nat) c r, 32 :: x = c :: r → isDigit c = false := fun x c r h => by injection h with h1; rw [← h1]; decide
  rcases hk with rfl | rfl | rfl
  · unfold tpixR bitR
    rw [if_pos rfl]
    have hl' : nats s = pre ++ b :: (48 + (1 - q.r.toNat / 255)) :: rest := hl
    have h := digAt hl' hb (by omega)
    rw [h]
    simp only [ne_eq, not_true_eq_false, if_false]
    have e : UInt8.ofNat (255 * (1 - (1 - q.r.toNat / 255))) = q.r := by
      rcases hq.2.2 (.inl rfl) with e | e <;> rw [e] <;> rfl
    rw [e, gray_is hq (by decide)]
    congr 2
    unfold pxN
    simp
  · unfold tpixR
    rw [if_neg (by decide), if_neg (by decide), hM (by decide)]
    have hl' : nats s = pre ++ b :: (dN q.r.toNat ++ rest) := by rw [hl]; rfl
    rw [smpText hl' hb hr (u8_le _)]
    simp only [Out.bind]
    rw [u8_back, gray_is hq (by decide)]
    congr 2
    unfold pxN
    simp
    omega
  · unfold tpixR
    rw [if_neg (by decide), if_pos rfl, hM (by decide)]
    have l1 : nats s = pre ++ b :: (dN q.r.toNat ++ (32 :: (dN q.g.toNat ++ 32 :: (dN q.b.toNat ++ rest)))) := by rw [hl]; unfold pxN; simp
    rw [smpText l1 hb (n32 _) (u8_le _)]
    simp only [Out.bind]
    have l2 : nats s = (pre ++ b :: dN q.r.toNat) ++ 32 :: (dN q.g.toNat ++ (32 :: (dN q.b.toNat ++ rest))) := by rw [l1]; simp
    have z2 : (pre ++ b :: dN q.r.toNat).length = pre.length + 1 + (dN q.r.toNat).length := by simp; omega
    have s2 := smpText l2 (by decide) (n32 _) (u8_le _)
    rw [z2] at s2
    rw [s2]
    simp only [Out.bind]
    have l3 : nats s = (pre ++ b :: dN q.r.toNat ++ 32 :: dN q.g.toNat) ++ 32 :: (dN q.b.toNat ++ rest) := by rw [l2]; simp
    have z3 : (pre ++ b :: dN q.r.toNat ++ 32 :: dN q.g.toNat).length = pre.length + 1 + (dN q.r.toNat).length + 1 + (dN q.g.toNat).length := by simp; omega
    have s3 := smpText l3 (by decide) hr (u8_le _)
    rw [z3] at s3
    rw [s3]
    simp only [Out.bind]
    rw [u8_back, u8_back, u8_back]
    have hq4 : (⟨q.r, q.g, q.b, 255⟩ : Qc) = q := by
      have := hq.1
      obtain ⟨r, g, b, a⟩ := q
      simp only at this
      subst this
      rfl
    rw [hq4]
    congr 2
    unfold pxN
    simp
    omega
theorem px_head (K b : Nat) (q : Qc) : ∃ r, pxN K b q = b :: r := by
  unfold pxN
  split
  · exact ⟨_, rfl⟩
  · split <;> exact ⟨_, rfl⟩
/-- pixels of a row, one behind the other -/
theorem textRun {s : ByteArray} {W H K M : Nat} (hK : 1 ≤ K ∧ K ≤ 3) (hM : K ≠ 1 → M = 255) : ∀ (qs : List (Nat × Qc)) (pre rest : List Nat) (n : Nat) (L : List Qc), nats s = pre ++ ((qs.map fun p => pxN K p.1 p.2).flatten ++ rest) → (∀ p ∈ qs, isBlank p.1 = true ∧ mayQ K p.2) → (∀ c r, rest = c :: r → isDigit c = false) →
    pixsR W H (tpixR s K M) (qs.length + n) pre.length L = pixsR W H (tpixR s K M) n (pre ++ (qs.map fun p => pxN K p.1 p.2).flatten).length (L ++ qs.map Prod.snd)
  | [], pre, rest, n, L, _, _, _ => by simp
  | p :: qs, pre, rest, n, L, hl, hp, hr => by
    obtain ⟨hb, hq⟩ := hp p List.mem_cons_self
    have hl' : nats s = pre ++ (pxN K p.1 p.2 ++ ((qs.map fun p => pxN K p.1 p.2).flatten ++ rest)) := by rw [hl]; simp
    have hr' : ∀ c r, (qs.map fun p => pxN K p.1 p.2).flatten ++ rest = c :: r → isDigit c = false := by
      intro c r e
      cases qs with
      | nil => exact hr c r (by simpa using e)
      | cons p2 qs =>
        obtain ⟨r2, e2⟩ := px_head K p2.1 p2.2
        have hb2 := (hp p2 (List.mem_cons_of_mem _ List.mem_cons_self)).1
        simp only [List.map_cons, List.flatten_cons, e2, List.cons_append, List.append_assoc] at e
        injection e with e3
        rw [← e3]
        unfold isBlank at hb2
        unfold isDigit
        rw [decide_eq_true_iff] at hb2
        rw [decide_eq_false (by omega)]
    rw [show (p :: qs).length + n = (qs.length + n) + 1 by simp; omega, pixsR, textStep hK hM hl' hb hr' hq]
    show pixsR W H (tpixR s K M) (qs.length + n) (pre ++ pxN K p.1 p.2).length (L ++ [p.2]) = _
    rw [textRun hK hM qs (pre ++ pxN K p.1 p.2) rest n (L ++ [p.2]) (by rw [hl']; simp) (fun x hx => hp x (List.mem_cons_of_mem _ hx)) hr]
    simp
/-- a row as text -/
def rowN (K : Nat) : List Qc → List Nat
  | [] => []
  | q :: qs => (pxN K 10 q).tail ++ (qs.map (pxN K 32)).flatten
def rowsN (K : Nat) (rows : List (List Qc)) : List Nat := (rows.map fun r => rowN K r ++ [10]).flatten
theorem textRows {s : ByteArray} {W H K M : Nat} (hK : 1 ≤ K ∧ K ≤ 3) (hM : K ≠ 1 → M = 255) : ∀ (rows : List (List Qc)) (pre : List Nat) (L : List Qc), nats s = pre ++ 10 :: rowsN K rows → (∀ r ∈ rows, r ≠ [] ∧ ∀ q ∈ r, mayQ K q) →
    pixsR W H (tpixR s K M) rows.flatten.length pre.length L = .img W H (flat (L ++ rows.flatten))
  | [], pre, L, _, _ => by simp [pixsR]
  | row :: rows, pre, L, hl, hp => by
    obtain ⟨hne, hq⟩ := hp row List.mem_cons_self
    obtain ⟨q, qs, rfl⟩ : ∃ q qs, row = q :: qs := by
      cases row with
      | nil => exact absurd rfl hne
      | cons q qs => exact ⟨q, qs, rfl⟩
    obtain ⟨r2, e2⟩ := px_head K 10 q
    have hmm : (((10, q) :: qs.map fun x => (32, x)).map fun p : Nat × Qc => pxN K p.1 p.2).flatten = 10 :: rowN K (q :: qs) := by
      simp only [List.map_cons, List.flatten_cons, List.map_map, rowN, e2, List.tail_cons, List.cons_append]
      rfl
    have hl' : nats s = pre ++ ((((10, q) :: qs.map fun x => (32, x)).map fun p : Nat × Qc => pxN K p.1 p.2).flatten ++ 10 :: rowsN K rows) := by
      rw [hl, hmm]
      unfold rowsN
      simp
    have h := textRun (s := s) (W := W) (H := H) (M := M) hK hM ((10, q) :: qs.map fun x => (32, x)) pre (10 :: rowsN K rows) rows.flatten.length L hl' (fun p hx => by
      rcases List.mem_cons.1 hx with rfl | hx
      · exact ⟨(show isBlank 10 = true by decide), hq _ List.mem_cons_self⟩
      · obtain ⟨x, hx2, rfl⟩ := List.mem_map.1 hx
        exact ⟨(show isBlank 32 = true by decide), hq _ (List.mem_cons_of_mem _ hx2)⟩) (fun c r e => by injection e with e1; rw [← e1]; decide)
    have hz : (((10, q) :: qs.map fun x => (32, x)) : List (Nat × Qc)).length = (q :: qs).length := by simp
    have hsn : (((10, q) :: qs.map fun x => (32, x)) : List (Nat × Qc)).map Prod.snd = q :: qs := by simp [Function.comp_def]
    rw [hz, hsn] at h
    rw [show ((q :: qs) :: rows).flatten.length = (q :: qs).length + rows.flatten.length by simp; omega, h]
    rw [textRows hK hM rows (pre ++ (((10, q) :: qs.map fun x => (32, x)).map fun p : Nat × Qc => pxN K p.1 p.2).flatten) (L ++ (q :: qs)) (by rw [hl']; simp) (fun r hr => hp r (List.mem_cons_of_mem _ hr))]
    simp
end Go.Proofs.YthljhebbblhakaaGreatDoor
