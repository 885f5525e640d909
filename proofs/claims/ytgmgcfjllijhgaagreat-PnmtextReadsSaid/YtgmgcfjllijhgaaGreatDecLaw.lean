/- Plain: numbers of bytes, the highest first; the first place that differs from a word. Plain: a decoder as what it asks of a budget, and what it tells in the end; by any budget it tells as without one, or that it is spent. -/
import Derived.Test.YtgmgcfjllijhgaaGreatBits
import Derived.Test.YtgmgcfjllijhgaaGreatSync
namespace Go.Proofs.YtgmgcfjllijhgaaGreat
set_option linter.unusedVariables false

/-- n bytes from i on as a number, the highest first -/
def beN (s : ByteArray) (i : Nat) : Nat → Nat
  | 0 => 0
  | n + 1 => beN s i n * 256 + bat s (i + n)
theorem beN_lt (s : ByteArray) (i n : Nat) : beN s i n < 256 ^ n := by
  induction n with
  | zero => simp [beN]
  | succ n ih =>
    have := bat_lt s (i + n)
    unfold beN
    rw [Nat.pow_succ]
    omega
theorem bat_extract (s : ByteArray) (a n k : Nat) (h : k < n) : bat (s.extract a (a + n)) k = bat s (a + k) := by
  unfold bat nats
  rw [ByteArray.data_extract, Array.toList_extract, List.extract_eq_take_drop]
  simp only [List.getD_eq_getElem?_getD, List.getElem?_map, List.getElem?_take, List.getElem?_drop]
  rw [if_pos (by omega)]
theorem extract_size (s : ByteArray) (a n : Nat) (h : a + n ≤ s.size) : (s.extract a (a + n)).size = n := by
  rw [ByteArray.size_extract]
  omega
theorem beN_extract (s : ByteArray) (a n : Nat) : ∀ m, m ≤ n → beN (s.extract a (a + n)) 0 m = beN s a m := by
  intro m
  induction m with
  | zero => intro _; rfl
  | succ m ih =>
    intro h
    unfold beN
    rw [ih (by omega), bat_extract s a n (0 + m) (by omega)]
    simp
/-- the first place from j on, up to j + n, that differs from the word -/
def offFrom (s : ByteArray) (w : List Nat) : Nat → Nat → Nat
  | 0, j => j
  | n + 1, j => if bat s j = w.getD j 0 then offFrom s w n (j + 1) else j
structure Off (s : ByteArray) (w : List Nat) (j m i : Nat) : Prop where
  lo : j ≤ i
  hi : i ≤ m
  same : ∀ k, j ≤ k → k < i → bat s k = w.getD k 0
  stop : i < m → bat s i ≠ w.getD i 0
theorem offFrom_is (s : ByteArray) (w : List Nat) (n : Nat) : ∀ j, Off s w j (j + n) (offFrom s w n j) := by
  induction n with
  | zero => intro j; exact ⟨Nat.le_refl _, Nat.le_refl _, fun k a b => by simp [offFrom] at b; omega, fun h => absurd h (by simp [offFrom])⟩
  | succ n ih =>
    intro j
    unfold offFrom
    by_cases h : bat s j = w.getD j 0
    · rw [if_pos h]
      obtain ⟨a, b, c, d⟩ := ih (j + 1)
      refine ⟨by omega, by omega, fun k k1 k2 => ?_, fun k => d (by omega)⟩
      by_cases e : k = j
      · rw [e]; exact h
      · exact c k (by omega) k2
    · rw [if_neg h]
      exact ⟨Nat.le_refl _, by omega, fun k a b => by omega, fun _ => h⟩
end Go.Proofs.YtgmgcfjllijhgaaGreat
namespace Go.Proofs.YtgmgcfjllijhgaaGreat
set_option linter.unusedVariables false

/-- what is told: a fault's kind and place, or a raster -/
inductive DRes where
  | bad (k a : Nat)
  | img (W H : Nat) (l : List UInt8)
/-- what is asked: steps of work, sides, bytes; where it is refused so many bytes are given back, and the place is told -/
inductive Dec where
  | fin (r : DRes)
  | work (n : Int) (fr a : Nat) (k : Dec)
  | sides (W H : Int) (a : Nat) (k : Dec)
  | take (n a : Nat) (k : Dec)
  | give (n : Nat) (k : Dec)
  | hold (n fr a : Nat) (k : Dec)
def Dec.run : Dec → Led → Led × DRes
  | .fin r, x => (x, r)
  | .work n fr a k, x => if (x.work n).2 = true then k.run (x.work n).1 else (((x.work n).1.give fr).1, .bad 4 a)
  | .sides W H a k, x => if (x.sides W H).2 = true then k.run (x.sides W H).1 else ((x.sides W H).1, .bad 4 a)
  | .take n a k, x => if (x.take n).2 = true then k.run (x.take n).1 else ((x.take n).1, .bad 4 a)
  | .give n k, x => k.run (x.give n).1
  | .hold n fr a k, x => if (x.take n).2 = true then k.run (x.take n).1 else (((x.take n).1.give fr).1, .bad 4 a)
def Dec.told : Dec → DRes
  | .fin r => r
  | .work _ _ _ k => k.told
  | .sides _ _ _ k => k.told
  | .take _ _ k => k.told
  | .give _ k => k.told
  | .hold _ _ _ k => k.told
/-- so many bytes are kept; none behind a fault, the raster's behind an image; places are within e -/
def Dec.bal (e : Nat) : Dec → Nat → Prop
  | .fin (.bad k a), b => b = 0 ∧ k ≠ 4 ∧ a ≤ e
  | .fin (.img W H l), b => b = 4 * (W * H) ∧ l.length = 4 * (W * H)
  | .work _ fr a k, b => fr = b ∧ a ≤ e ∧ k.bal e b
  | .sides _ _ a k, b => b = 0 ∧ a ≤ e ∧ k.bal e b
  | .take n a k, b => b = 0 ∧ a ≤ e ∧ k.bal e (b + n)
  | .give n k, b => n ≤ b ∧ k.bal e (b - n)
  | .hold n fr a k, b => fr = b ∧ a ≤ e ∧ k.bal e (b + n)
def Dec.cost : Dec → Nat
  | .fin _ => 0
  | .work n _ _ k => n.toNat + k.cost
  | .sides _ _ _ k => k.cost
  | .take _ _ k => k.cost
  | .give _ k => k.cost
  | .hold _ _ _ k => k.cost
/-- no refusal by so many bytes, sides up to w and h -/
def Dec.may (B w h : Int) : Dec → Prop
  | .fin _ => True
  | .work n _ _ k => 0 ≤ n ∧ k.may B w h
  | .sides W H _ k => (1 ≤ W ∧ W ≤ w) ∧ (1 ≤ H ∧ H ≤ h) ∧ k.may B w h
  | .take n _ k => (n : Int) ≤ B ∧ k.may B w h
  | .give _ k => k.may B w h
  | .hold n fr _ k => (n : Int) + fr ≤ B ∧ k.may B w h
def DRes.kept : DRes → Nat
  | .bad _ _ => 0
  | .img W H _ => 4 * (W * H)

section
variable {x y : Led} {k : Dec}
theorem run_work_yes {n : Int} {fr a : Nat} (e : x.work n = (y, true)) : (Dec.work n fr a k).run x = k.run y := by rw [Dec.run, e]; rfl
theorem run_work_no {n : Int} {fr a : Nat} (e : x.work n = (y, false)) : (Dec.work n fr a k).run x = ((y.give fr).1, .bad 4 a) := by rw [Dec.run, e]; rfl
theorem run_sides_yes {W H : Int} {a : Nat} (e : x.sides W H = (y, true)) : (Dec.sides W H a k).run x = k.run y := by rw [Dec.run, e]; rfl
theorem run_sides_no {W H : Int} {a : Nat} (e : x.sides W H = (y, false)) : (Dec.sides W H a k).run x = (y, .bad 4 a) := by rw [Dec.run, e]; rfl
theorem run_take_yes {n a : Nat} (e : x.take n = (y, true)) : (Dec.take n a k).run x = k.run y := by rw [Dec.run, e]; rfl
theorem run_take_no {n a : Nat} (e : x.take n = (y, false)) : (Dec.take n a k).run x = (y, .bad 4 a) := by rw [Dec.run, e]; rfl
theorem run_hold_yes {n fr a : Nat} (e : x.take n = (y, true)) : (Dec.hold n fr a k).run x = k.run y := by rw [Dec.run, e]; rfl
theorem run_hold_no {n fr a : Nat} (e : x.take n = (y, false)) : (Dec.hold n fr a k).run x = ((y.give fr).1, .bad 4 a) := by rw [Dec.run, e]; rfl
end
theorem led_work_no {x : Led} {n : Int} (h : (x.work n).2 = false) (hx : x.reason = 0) : (x.work n).1 = x.refused 3 n := by
  unfold Led.work at h ⊢
  rw [if_neg (by simpa using hx)] at h ⊢
  split
  · rfl
  · rename_i h'; rw [if_neg h'] at h; simp at h
theorem led_sides_no {x : Led} {a b : Int} (h : (x.sides a b).2 = false) (hx : x.reason = 0) : (x.sides a b).1.reason ≠ 0 ∧ (x.sides a b).1.bytes = x.bytes := by
  unfold Led.sides at h ⊢
  rw [if_neg (by simpa using hx)] at h ⊢
  split
  · simp [Led.refused]
  · rename_i h'
    rw [if_neg h'] at h
    split
    · simp [Led.refused]
    · rename_i h''; rw [if_neg h''] at h; simp at h
theorem led_take_no {x : Led} {n : Int} (h : (x.take n).2 = false) (hx : x.reason = 0) : (x.take n).1.reason ≠ 0 ∧ (x.take n).1.bytes = x.bytes := by
  unfold Led.take at h ⊢
  rw [if_neg (by simpa using hx)] at h ⊢
  split
  · simp [Led.refused]
  · rename_i h'; rw [if_neg h'] at h; simp at h
theorem led_work_yes {x : Led} {n : Int} (h : (x.work n).2 = true) : x.reason = 0 ∧ (x.work n).1.reason = 0 ∧ (x.work n).1.bytes = x.bytes ∧ 0 ≤ n ∧ (x.work n).1.steps = x.steps + n ∧ (x.work n).1.S = x.S ∧ (x.work n).1.B = x.B ∧ (x.work n).1.W = x.W ∧ (x.work n).1.H = x.H := by
  unfold Led.work at h ⊢
  by_cases hx : x.reason ≠ 0
  · rw [if_pos hx] at h; simp at h
  · rw [if_neg hx] at h ⊢
    by_cases h' : n < 0 ∨ x.S - x.steps < n
    · rw [if_pos h'] at h; simp at h
    · rw [if_neg h']
      exact ⟨by omega, by simpa using hx, rfl, by omega, rfl, rfl, rfl, rfl, rfl⟩
theorem led_sides_yes {x : Led} {a b : Int} (h : (x.sides a b).2 = true) : (x.sides a b).1 = x ∧ x.reason = 0 ∧ a ≤ x.W ∧ b ≤ x.H := by
  unfold Led.sides at h ⊢
  by_cases hx : x.reason ≠ 0
  · rw [if_pos hx] at h; simp at h
  · rw [if_neg hx] at h ⊢
    by_cases h1 : a < 1 ∨ x.W < a
    · rw [if_pos h1] at h; simp at h
    · rw [if_neg h1] at h ⊢
      by_cases h2 : b < 1 ∨ x.H < b
      · rw [if_pos h2] at h; simp at h
      · rw [if_neg h2]
        exact ⟨rfl, by omega, by omega, by omega⟩
theorem led_take_yes {x : Led} {n : Int} (h : (x.take n).2 = true) : x.reason = 0 ∧ (x.take n).1.reason = 0 ∧ (x.take n).1.bytes = x.bytes + n ∧ (x.take n).1.steps = x.steps ∧ (x.take n).1.S = x.S ∧ (x.take n).1.B = x.B ∧ (x.take n).1.W = x.W ∧ (x.take n).1.H = x.H := by
  unfold Led.take at h ⊢
  by_cases hx : x.reason ≠ 0
  · rw [if_pos hx] at h; simp at h
  · rw [if_neg hx] at h ⊢
    by_cases h' : n < 0 ∨ x.B - x.bytes < n
    · rw [if_pos h'] at h; simp at h
    · rw [if_neg h']
      exact ⟨by omega, by simpa using hx, rfl, rfl, rfl, rfl, rfl, rfl⟩
theorem led_give_yes {x : Led} {n : Int} (h0 : 0 ≤ n) (h1 : n ≤ x.bytes) : (x.give n).1 = { x with bytes := x.bytes - n } := by
  unfold Led.give
  rw [if_neg (by omega)]

/-- by any budget: as without one, or it is spent, at a place within, and nothing is kept -/
theorem Dec.run_cases (e : Nat) (d : Dec) : ∀ (b : Nat) (x : Led), d.bal e b → x.reason = 0 → x.bytes = (b : Int) →
    (∃ a, a ≤ e ∧ (d.run x).2 = .bad 4 a ∧ (d.run x).1.reason ≠ 0 ∧ (d.run x).1.bytes = 0) ∨ ((d.run x).2 = d.told ∧ (d.run x).1.reason = 0 ∧ (d.run x).1.bytes = (d.told.kept : Int)) := by
  induction d with
  | fin r =>
    intro b x hb hx hy
    refine .inr ⟨rfl, hx, ?_⟩
    cases r with
    | bad k a => obtain ⟨h, _⟩ := hb; show x.bytes = ((0 : Nat) : Int); rw [hy, h]
    | img W H l => obtain ⟨h, _⟩ := hb; show x.bytes = ((4 * (W * H) : Nat) : Int); rw [hy, h]
  | work n fr a k ih =>
    intro b x hb hx hy
    obtain ⟨rfl, ha, hk⟩ := hb
    unfold Dec.run
    by_cases h : (x.work n).2 = true
    · rw [if_pos h]
      obtain ⟨_, h2, h3, _⟩ := led_work_yes h
      exact ih _ _ hk h2 (h3.trans hy)
    · rw [if_neg h]
      have h' : (x.work n).2 = false := by simpa using h
      refine .inl ⟨a, ha, rfl, ?_⟩
      rw [led_work_no h' hx, led_give_yes (by omega) (by simp only [Led.refused]; omega)]
      simp only [Led.refused]
      exact ⟨by decide, by omega⟩
  | sides W H a k ih =>
    intro b x hb hx hy
    obtain ⟨rfl, ha, hk⟩ := hb
    unfold Dec.run
    by_cases h : (x.sides W H).2 = true
    · rw [if_pos h, (led_sides_yes h).1]
      exact ih _ _ hk hx hy
    · rw [if_neg h]
      have h' : (x.sides W H).2 = false := by simpa using h
      obtain ⟨h1, h2⟩ := led_sides_no h' hx
      exact .inl ⟨a, ha, rfl, h1, h2.trans hy⟩
  | take n a k ih =>
    intro b x hb hx hy
    obtain ⟨rfl, ha, hk⟩ := hb
    unfold Dec.run
    by_cases h : (x.take n).2 = true
    · rw [if_pos h]
      obtain ⟨_, h2, h3, _⟩ := led_take_yes h
      exact ih _ _ hk h2 (by rw [h3]; omega)
    · rw [if_neg h]
      have h' : (x.take n).2 = false := by simpa using h
      obtain ⟨h1, h2⟩ := led_take_no h' hx
      exact .inl ⟨a, ha, rfl, h1, h2.trans hy⟩
  | give n k ih =>
    intro b x hb hx hy
    obtain ⟨hn, hk⟩ := hb
    unfold Dec.run
    rw [led_give_yes (by omega) (by omega)]
    exact ih _ _ hk hx (by simp only; omega)
  | hold n fr a k ih =>
    intro b x hb hx hy
    obtain ⟨rfl, ha, hk⟩ := hb
    unfold Dec.run
    by_cases h : (x.take n).2 = true
    · rw [if_pos h]
      obtain ⟨_, h2, h3, _⟩ := led_take_yes h
      exact ih _ _ hk h2 (by rw [h3]; omega)
    · rw [if_neg h]
      have h' : (x.take n).2 = false := by simpa using h
      obtain ⟨h1, h2⟩ := led_take_no h' hx
      refine .inl ⟨a, ha, rfl, ?_⟩
      rw [led_give_yes (by omega) (by omega)]
      exact ⟨h1, by simp only; omega⟩

/-- a budget that is enough refuses nothing -/
theorem Dec.run_enough (d : Dec) : ∀ (x : Led) (e b : Nat), x.reason = 0 → d.bal e b → x.bytes = (b : Int) → d.may x.B x.W x.H → x.steps + d.cost ≤ x.S →
    (d.run x).2 = d.told ∧ (d.run x).1.reason = 0 := by
  induction d with
  | fin r => intro x e b hx _ _ _ _; exact ⟨rfl, hx⟩
  | work n fr a k ih =>
    intro x e b hx hb hy hm hc
    obtain ⟨rfl, ha, hk⟩ := hb
    obtain ⟨hn, hm⟩ := hm
    unfold Dec.cost at hc
    have h : (x.work n).2 = true := by
      unfold Led.work
      rw [if_neg (by simpa using hx), if_neg (by omega)]
    unfold Dec.run
    rw [if_pos h]
    obtain ⟨_, h2, h3, _, h4, h5, h6, h7, h8⟩ := led_work_yes h
    exact ih _ e _ h2 hk (h3.trans hy) (by rw [h6, h7, h8]; exact hm) (by rw [h4, h5]; omega)
  | sides W H a k ih =>
    intro x e b hx hb hy hm hc
    obtain ⟨rfl, ha, hk⟩ := hb
    obtain ⟨hw, hh, hm⟩ := hm
    unfold Dec.cost at hc
    have h : (x.sides W H).2 = true := by
      unfold Led.sides
      rw [if_neg (by simpa using hx), if_neg (by omega), if_neg (by omega)]
    unfold Dec.run
    rw [if_pos h, (led_sides_yes h).1]
    exact ih _ e _ hx hk hy hm hc
  | take n a k ih =>
    intro x e b hx hb hy hm hc
    obtain ⟨rfl, ha, hk⟩ := hb
    obtain ⟨hn, hm⟩ := hm
    unfold Dec.cost at hc
    have h : (x.take n).2 = true := by
      unfold Led.take
      rw [if_neg (by simpa using hx), if_neg (by omega)]
    unfold Dec.run
    rw [if_pos h]
    obtain ⟨_, h2, h3, h4, h5, h6, h7, h8⟩ := led_take_yes h
    exact ih _ e _ h2 hk (by rw [h3]; omega) (by rw [h6, h7, h8]; exact hm) (by rw [h4, h5]; exact hc)
  | give n k ih =>
    intro x e b hx hb hy hm hc
    obtain ⟨hn, hk⟩ := hb
    unfold Dec.run
    unfold Dec.cost at hc
    rw [led_give_yes (by omega) (by omega)]
    exact ih _ e _ hx hk (by simp only; omega) hm hc
  | hold n fr a k ih =>
    intro x e b hx hb hy hm hc
    obtain ⟨rfl, ha, hk⟩ := hb
    obtain ⟨hn, hm⟩ := hm
    unfold Dec.cost at hc
    have h : (x.take n).2 = true := by
      unfold Led.take
      rw [if_neg (by simpa using hx), if_neg (by omega)]
    unfold Dec.run
    rw [if_pos h]
    obtain ⟨_, h2, h3, h4, h5, h6, h7, h8⟩ := led_take_yes h
    exact ih _ e _ h2 hk (by rw [h3]; omega) (by rw [h6, h7, h8]; exact hm) (by rw [h4, h5]; exact hc)
theorem Dec.run_ok (d : Dec) : ∀ x : Led, x.Ok → (d.run x).1.Ok := by
  induction d with
  | fin r => intro x h; exact h
  | work n fr a k ih =>
    intro x h
    unfold Dec.run
    split
    · exact ih _ (h.work n)
    · exact (h.work n).give _
  | sides W H a k ih =>
    intro x h
    unfold Dec.run
    split
    · exact ih _ (h.sides W H)
    · exact h.sides W H
  | take n a k ih =>
    intro x h
    unfold Dec.run
    split
    · exact ih _ (h.take n)
    · exact h.take n
  | give n k ih =>
    intro x h
    unfold Dec.run
    exact ih _ (h.give n)
  | hold n fr a k ih =>
    intro x h
    unfold Dec.run
    split
    · exact ih _ (h.take n)
    · exact (h.take n).give _
end Go.Proofs.YtgmgcfjllijhgaaGreat
