/- tgahead.Bytes: two bytes are put. Plain: numbers of bytes, the highest first; the first place that differs from a word. Plain: a decoder as what it asks of a budget, and what it tells in the end; by any budget it tells as without one, or that it is spent. Colours; rows of colours in memory. Plain arithmetic on samples: the nearest of 256 by trying them all is the rounded quotient; monotone, onto. The contracts of scale's functions and of the reference of chapter 8: what each returns, for every argument. The walks of the laws of chapter 8 that keep no state: ScaleSamples, ScaleRises, ScaleLeast return true. Plain: a farbfeld file, as a decoder takes it. Arguments opened: slices of integers. A scaler: its table is laid once; the law ScaleTables. -/
import Derived.Test.YtlehkgkomjojmaaGreatGBits
import Derived.Test.YtlehkgkomjojmaaGreatGSync
import Derived.Deep.RegionHeld3
import Derived.BigRegion
import Derived.Deep.OwnRows
import Derived.Test.YtlehkgkomjojmaaGreatProg
import Derived.Test.YtlehkgkomjojmaaGreatGWords
import Derived.WalkSpells
import Derived.WalkLawsBesides
import Derived.ProofKit
import Derived.OpenShut
import Derived.Deep.Slices
namespace Go.Proofs.YtlehkgkomjojmaaGreat
open Go.RowKit
set_option linter.unusedVariables false
set_option linter.unusedSimpArgs false

theorem tgaByPut {w : World} {k kb i j : Nat} {v : Nat} {cs : Array Value} (K : Blk w kb 22 #[.slice (some ⟨k, 0, none⟩) 18 18]) (B : Blk w k 5 cs) (hcs : cs.size = 18) (hj : i + 1 = j) (hi : j < 18) (hv : v ≤ 65535) :
  Calls Tryz.prog 116 #[.int .i64 (i : Int), .int .i64 (v : Int), .pointer (some ⟨kb, 0, none⟩)] w fun e w' => e = .returned (.tuple #[]) ∧ Blk w' k 5 ((cs.setIfInBounds i (.int .u8 ((v % 256 : Nat) : Int))).setIfInBounds j (.int .u8 ((v / 256 : Nat) : Int))) ∧ Turn [k] w w' := by
 have c0 : w.cell? ⟨kb, 0, none⟩ = some (.slice (some ⟨k, 0, none⟩) 18 18) := Blk.cell K 0
 have x0 : w.cell? ⟨k, i, none⟩ = cs[i]? := Blk.cell B i
 have x1 : w.cell? ⟨k, j, none⟩ = cs[j]? := Blk.cell B j
 have f0 : w.frozen? ⟨k, i, none⟩ = false := Blk.frozen B i
 have f1 : w.frozen? ⟨k, j, none⟩ = false := Blk.frozen B j
 have hk := Blk.lt B
 obtain ⟨u0, h0⟩ : ∃ u, cs[i]? = some u := ⟨_, Array.getElem?_eq_getElem (by omega)⟩
 obtain ⟨u1, h1⟩ : ∃ u, cs[j]? = some u := ⟨_, Array.getElem?_eq_getElem (by omega)⟩
 rw [h0] at x0
 rw [h1] at x1
 have hiI : (i : Int) < 18 := by omega
 have hjI : (j : Int) < 18 := by omega
 have hjI' : (i : Int) + 1 = (j : Int) := by omega
 have hij : i ≠ j := by omega
 have hji : j ≠ i := by omega
 have wj : IntKind.i64.wrap (j : Int) = (j : Int) := IntWalk.i64_in _ (by omega)
 have hkb : k ≠ kb := Blk.ne_ B K (by decide)
 have hkb' := hkb.symm
 have wv0 : IntKind.u8.wrap (v : Int) = ((v % 256 : Nat) : Int) := by rw [IntKind.wrap_u8]; omega
 have wv1 : IntKind.u8.wrap ((v : Int) / 256) = ((v / 256 : Nat) : Int) := by rw [IntKind.wrap_u8]; omega
 have HB := Lib.hid B
 have HV := Lib.hid hv
 clear wv0 wv1 hv
 clear h0 h1 K B hcs hj
 go_enter Tryz.func116, Tryz.ntmps116
 go_region
 all_goals go_end0
 have wv0' : ((v : Int) % 256) = ((v % 256 : Nat) : Int) := by have := HV.out; omega
 have wv1' : ((v : Int) / 256 % 256) = ((v / 256 : Nat) : Int) := by have := HV.out; omega
 exact ⟨rfl, (Blk.drew (Blk.set_ (Blk.set_ HB.out i _) j _)).eq_ (by rw [wv0', wv1']), (((Turn.refl _ _).set_ i _ (by simp)).set_ j _ (by simp)).drew⟩
end Go.Proofs.YtlehkgkomjojmaaGreat
namespace Go.Proofs.YtlehkgkomjojmaaGreat
set_option linter.unusedVariables false

/-- n bytes from i on as a number, the highest first -/
def beN (s : ByteArray) (i : Nat) : Nat → Nat
 | 0 => 0
 | n + 1 => beN s i n * 256 + bat s (i + n)
theorem bat_extract (s : ByteArray) (a n k : Nat) (h : k < n) : bat (s.extract a (a + n)) k = bat s (a + k) := by
 unfold bat nats
 rw [ByteArray.data_extract, Array.toList_extract, List.extract_eq_take_drop]
 simp only [List.getD_eq_getElem?_getD, List.getElem?_map, List.getElem?_take, List.getElem?_drop]
 rw [if_pos (by omega)]
theorem extract_size (s : ByteArray) (a n : Nat) (h : a + n ≤ s.size) : (s.extract a (a + n)).size = n := by
 rw [ByteArray.size_extract]
 omega
end Go.Proofs.YtlehkgkomjojmaaGreat
namespace Go.Proofs.YtlehkgkomjojmaaGreat
set_option linter.unusedVariables false

/-- what is told: a fault's kind and place, or a raster -/
inductive DRes where
 | bad (k a : Nat)
 | img (W H : Nat) (l : List UInt8)
/-- what is asked: steps of work, sides, bytes; where it is refused so many bytes are given back, and the place is told -/
inductive Dec where
 | fin (r : DRes)
 | work (n : Int) (fr a : Nat) (k : Dec)
 | sides (W H : Int) (a : Nat) (k : Dec)
 | take (n a : Nat) (k : Dec)
 | give (n : Nat) (k : Dec)
 | hold (n fr a : Nat) (k : Dec)
def Dec.run : Dec → Led → Led × DRes
 | .fin r, x => (x, r)
 | .work n fr a k, x => if (x.work n).2 = true then k.run (x.work n).1 else (((x.work n).1.give fr).1, .bad 4 a)
 | .sides W H a k, x => if (x.sides W H).2 = true then k.run (x.sides W H).1 else ((x.sides W H).1, .bad 4 a)
 | .take n a k, x => if (x.take n).2 = true then k.run (x.take n).1 else ((x.take n).1, .bad 4 a)
 | .give n k, x => k.run (x.give n).1
 | .hold n fr a k, x => if (x.take n).2 = true then k.run (x.take n).1 else (((x.take n).1.give fr).1, .bad 4 a)
def Dec.told : Dec → DRes
 | .fin r => r
 | .work _ _ _ k => k.told
 | .sides _ _ _ k => k.told
 | .take _ _ k => k.told
 | .give _ k => k.told
 | .hold _ _ _ k => k.told
/-- so many bytes are kept; none behind a fault, the raster's behind an image; places are within e -/
def Dec.bal (e : Nat) : Dec → Nat → Prop
 | .fin (.bad k a), b => b = 0 ∧ k ≠ 4 ∧ a ≤ e
 | .fin (.img W H l), b => b = 4 * (W * H) ∧ l.length = 4 * (W * H)
 | .work _ fr a k, b => fr = b ∧ a ≤ e ∧ k.bal e b
 | .sides _ _ a k, b => b = 0 ∧ a ≤ e ∧ k.bal e b
 | .take n a k, b => b = 0 ∧ a ≤ e ∧ k.bal e (b + n)
 | .give n k, b => n ≤ b ∧ k.bal e (b - n)
 | .hold n fr a k, b => fr = b ∧ a ≤ e ∧ k.bal e (b + n)
def Dec.cost : Dec → Nat
 | .fin _ => 0
 | .work n _ _ k => n.toNat + k.cost
 | .sides _ _ _ k => k.cost
 | .take _ _ k => k.cost
 | .give _ k => k.cost
 | .hold _ _ _ k => k.cost
/-- no refusal by so many bytes, sides up to w and h -/
def Dec.may (B w h : Int) : Dec → Prop
 | .fin _ => True
 | .work n _ _ k => 0 ≤ n ∧ k.may B w h
 | .sides W H _ k => (1 ≤ W ∧ W ≤ w) ∧ (1 ≤ H ∧ H ≤ h) ∧ k.may B w h
 | .take n _ k => (n : Int) ≤ B ∧ k.may B w h
 | .give _ k => k.may B w h
 | .hold n fr _ k => (n : Int) + fr ≤ B ∧ k.may B w h
def DRes.kept : DRes → Nat
 | .bad _ _ => 0
 | .img W H _ => 4 * (W * H)

section
variable {x y : Led} {k : Dec}
theorem run_work_yes {n : Int} {fr a : Nat} (e : x.work n = (y, true)) : (Dec.work n fr a k).run x = k.run y := by rw [Dec.run, e]; rfl
theorem run_work_no {n : Int} {fr a : Nat} (e : x.work n = (y, false)) : (Dec.work n fr a k).run x = ((y.give fr).1, .bad 4 a) := by rw [Dec.run, e]; rfl
theorem run_sides_yes {W H : Int} {a : Nat} (e : x.sides W H = (y, true)) : (Dec.sides W H a k).run x = k.run y := by rw [Dec.run, e]; rfl
theorem run_sides_no {W H : Int} {a : Nat} (e : x.sides W H = (y, false)) : (Dec.sides W H a k).run x = (y, .bad 4 a) := by rw [Dec.run, e]; rfl
theorem run_take_yes {n a : Nat} (e : x.take n = (y, true)) : (Dec.take n a k).run x = k.run y := by rw [Dec.run, e]; rfl
theorem run_take_no {n a : Nat} (e : x.take n = (y, false)) : (Dec.take n a k).run x = (y, .bad 4 a) := by rw [Dec.run, e]; rfl
theorem run_hold_yes {n fr a : Nat} (e : x.take n = (y, true)) : (Dec.hold n fr a k).run x = k.run y := by rw [Dec.run, e]; rfl
theorem run_hold_no {n fr a : Nat} (e : x.take n = (y, false)) : (Dec.hold n fr a k).run x = ((y.give fr).1, .bad 4 a) := by rw [Dec.run, e]; rfl
end
theorem led_work_no {x : Led} {n : Int} (h : (x.work n).2 = false) (hx : x.reason = 0) : (x.work n).1 = x.refused 3 n := by
 unfold Led.work at h ⊢
 rw [if_neg (by simpa using hx)] at h ⊢
 split
 ·rfl
 ·rename_i h'; rw [if_neg h'] at h; simp at h
theorem led_sides_no {x : Led} {a b : Int} (h : (x.sides a b).2 = false) (hx : x.reason = 0) : (x.sides a b).1.reason ≠ 0 ∧ (x.sides a b).1.bytes = x.bytes := by
 unfold Led.sides at h ⊢
 rw [if_neg (by simpa using hx)] at h ⊢
 split
 ·simp [Led.refused]
 ·rename_i h'
  rw [if_neg h'] at h
  split
  ·simp [Led.refused]
  ·rename_i h''; rw [if_neg h''] at h; simp at h
theorem led_take_no {x : Led} {n : Int} (h : (x.take n).2 = false) (hx : x.reason = 0) : (x.take n).1.reason ≠ 0 ∧ (x.take n).1.bytes = x.bytes := by
 unfold Led.take at h ⊢
 rw [if_neg (by simpa using hx)] at h ⊢
 split
 ·simp [Led.refused]
 ·rename_i h'; rw [if_neg h'] at h; simp at h
theorem led_work_yes {x : Led} {n : Int} (h : (x.work n).2 = true) : x.reason = 0 ∧ (x.work n).1.reason = 0 ∧ (x.work n).1.bytes = x.bytes ∧ 0 ≤ n ∧ (x.work n).1.steps = x.steps + n ∧ (x.work n).1.S = x.S ∧ (x.work n).1.B = x.B ∧ (x.work n).1.W = x.W ∧ (x.work n).1.H = x.H := by
 unfold Led.work at h ⊢
 by_cases hx : x.reason ≠ 0
 ·rw [if_pos hx] at h; simp at h
 ·rw [if_neg hx] at h ⊢
  by_cases h' : n < 0 ∨ x.S - x.steps < n
  ·rw [if_pos h'] at h; simp at h
  ·rw [if_neg h']
   exact ⟨by omega, by simpa using hx, rfl, by omega, rfl, rfl, rfl, rfl, rfl⟩
theorem led_sides_yes {x : Led} {a b : Int} (h : (x.sides a b).2 = true) : (x.sides a b).1 = x ∧ x.reason = 0 ∧ a ≤ x.W ∧ b ≤ x.H := by
 unfold Led.sides at h ⊢
 by_cases hx : x.reason ≠ 0
 ·rw [if_pos hx] at h; simp at h
 ·rw [if_neg hx] at h ⊢
  by_cases h1 : a < 1 ∨ x.W < a
  ·rw [if_pos h1] at h; simp at h
  ·rw [if_neg h1] at h ⊢
   by_cases h2 : b < 1 ∨ x.H < b
   ·rw [if_pos h2] at h; simp at h
   ·rw [if_neg h2]
    exact ⟨rfl, by omega, by omega, by omega⟩
theorem led_take_yes {x : Led} {n : Int} (h : (x.take n).2 = true) : x.reason = 0 ∧ (x.take n).1.reason = 0 ∧ (x.take n).1.bytes = x.bytes + n ∧ (x.take n).1.steps = x.steps ∧ (x.take n).1.S = x.S ∧ (x.take n).1.B = x.B ∧ (x.take n).1.W = x.W ∧ (x.take n).1.H = x.H := by
 unfold Led.take at h ⊢
 by_cases hx : x.reason ≠ 0
 ·rw [if_pos hx] at h; simp at h
 ·rw [if_neg hx] at h ⊢
  by_cases h' : n < 0 ∨ x.B - x.bytes < n
  ·rw [if_pos h'] at h; simp at h
  ·rw [if_neg h']
   exact ⟨by omega, by simpa using hx, rfl, rfl, rfl, rfl, rfl, rfl⟩
theorem led_give_yes {x : Led} {n : Int} (h0 : 0 ≤ n) (h1 : n ≤ x.bytes) : (x.give n).1 = { x with bytes := x.bytes - n } := by
 unfold Led.give
 rw [if_neg (by omega)]

/-- by any budget: as without one, or it is spent, at a place within, and nothing is kept -/
theorem Dec.run_cases (e : Nat) (d : Dec) : ∀ (b : Nat) (x : Led), d.bal e b → x.reason = 0 → x.bytes = (b : Int) →
  (∃ a, a ≤ e ∧ (d.run x).2 = .bad 4 a ∧ (d.run x).1.reason ≠ 0 ∧ (d.run x).1.bytes = 0) ∨ ((d.run x).2 = d.told ∧ (d.run x).1.reason = 0 ∧ (d.run x).1.bytes = (d.told.kept : Int)) := by
 induction d with
 | fin r =>
  intro b x hb hx hy
  refine .inr ⟨rfl, hx, ?_⟩
  cases r with
  | bad k a => obtain ⟨h, _⟩ := hb; show x.bytes = ((0 : Nat) : Int); rw [hy, h]
  | img W H l => obtain ⟨h, _⟩ := hb; show x.bytes = ((4 * (W * H) : Nat) : Int); rw [hy, h]
 | work n fr a k ih =>
  intro b x hb hx hy
  obtain ⟨rfl, ha, hk⟩ := hb
  unfold Dec.run
  by_cases h : (x.work n).2 = true
  ·rw [if_pos h]
   obtain ⟨_, h2, h3, _⟩ := led_work_yes h
   exact ih _ _ hk h2 (h3.trans hy)
  ·rw [if_neg h]
   have h' : (x.work n).2 = false := by simpa using h
   refine .inl ⟨a, ha, rfl, ?_⟩
   rw [led_work_no h' hx, led_give_yes (by omega) (by simp only [Led.refused]; omega)]
   simp only [Led.refused]
   exact ⟨by decide, by omega⟩
 | sides W H a k ih =>
  intro b x hb hx hy
  obtain ⟨rfl, ha, hk⟩ := hb
  unfold Dec.run
  by_cases h : (x.sides W H).2 = true
  ·rw [if_pos h, (led_sides_yes h).1]
   exact ih _ _ hk hx hy
  ·rw [if_neg h]
   have h' : (x.sides W H).2 = false := by simpa using h
   obtain ⟨h1, h2⟩ := led_sides_no h' hx
   exact .inl ⟨a, ha, rfl, h1, h2.trans hy⟩
 | take n a k ih =>
  intro b x hb hx hy
  obtain ⟨rfl, ha, hk⟩ := hb
  unfold Dec.run
  by_cases h : (x.take n).2 = true
  ·rw [if_pos h]
   obtain ⟨_, h2, h3, _⟩ := led_take_yes h
   exact ih _ _ hk h2 (by rw [h3]; omega)
  ·rw [if_neg h]
   have h' : (x.take n).2 = false := by simpa using h
   obtain ⟨h1, h2⟩ := led_take_no h' hx
   exact .inl ⟨a, ha, rfl, h1, h2.trans hy⟩
 | give n k ih =>
  intro b x hb hx hy
  obtain ⟨hn, hk⟩ := hb
  unfold Dec.run
  rw [led_give_yes (by omega) (by omega)]
  exact ih _ _ hk hx (by simp only; omega)
 | hold n fr a k ih =>
  intro b x hb hx hy
  obtain ⟨rfl, ha, hk⟩ := hb
  unfold Dec.run
  by_cases h : (x.take n).2 = true
  ·rw [if_pos h]
   obtain ⟨_, h2, h3, _⟩ := led_take_yes h
   exact ih _ _ hk h2 (by rw [h3]; omega)
  ·rw [if_neg h]
   have h' : (x.take n).2 = false := by simpa using h
   obtain ⟨h1, h2⟩ := led_take_no h' hx
   refine .inl ⟨a, ha, rfl, ?_⟩
   rw [led_give_yes (by omega) (by omega)]
   exact ⟨h1, by simp only; omega⟩

/-- a budget that is enough refuses nothing -/
theorem Dec.run_enough (d : Dec) : ∀ (x : Led) (e b : Nat), x.reason = 0 → d.bal e b → x.bytes = (b : Int) → d.may x.B x.W x.H → x.steps + d.cost ≤ x.S →
  (d.run x).2 = d.told ∧ (d.run x).1.reason = 0 := by
 induction d with
 | fin r => intro x e b hx _ _ _ _; exact ⟨rfl, hx⟩
 | work n fr a k ih =>
  intro x e b hx hb hy hm hc
  obtain ⟨rfl, ha, hk⟩ := hb
  obtain ⟨hn, hm⟩ := hm
  unfold Dec.cost at hc
  have h : (x.work n).2 = true := by
   unfold Led.work
   rw [if_neg (by simpa using hx), if_neg (by omega)]
  unfold Dec.run
  rw [if_pos h]
  obtain ⟨_, h2, h3, _, h4, h5, h6, h7, h8⟩ := led_work_yes h
  exact ih _ e _ h2 hk (h3.trans hy) (by rw [h6, h7, h8]; exact hm) (by rw [h4, h5]; omega)
 | sides W H a k ih =>
  intro x e b hx hb hy hm hc
  obtain ⟨rfl, ha, hk⟩ := hb
  obtain ⟨hw, hh, hm⟩ := hm
  unfold Dec.cost at hc
  have h : (x.sides W H).2 = true := by
   unfold Led.sides
   rw [if_neg (by simpa using hx), if_neg (by omega), if_neg (by omega)]
  unfold Dec.run
  rw [if_pos h, (led_sides_yes h).1]
  exact ih _ e _ hx hk hy hm hc
 | take n a k ih =>
  intro x e b hx hb hy hm hc
  obtain ⟨rfl, ha, hk⟩ := hb
  obtain ⟨hn, hm⟩ := hm
  unfold Dec.cost at hc
  have h : (x.take n).2 = true := by
   unfold Led.take
   rw [if_neg (by simpa using hx), if_neg (by omega)]
  unfold Dec.run
  rw [if_pos h]
  obtain ⟨_, h2, h3, h4, h5, h6, h7, h8⟩ := led_take_yes h
  exact ih _ e _ h2 hk (by rw [h3]; omega) (by rw [h6, h7, h8]; exact hm) (by rw [h4, h5]; exact hc)
 | give n k ih =>
  intro x e b hx hb hy hm hc
  obtain ⟨hn, hk⟩ := hb
  unfold Dec.run
  unfold Dec.cost at hc
  rw [led_give_yes (by omega) (by omega)]
  exact ih _ e _ hx hk (by simp only; omega) hm hc
 | hold n fr a k ih =>
  intro x e b hx hb hy hm hc
  obtain ⟨rfl, ha, hk⟩ := hb
  obtain ⟨hn, hm⟩ := hm
  unfold Dec.cost at hc
  have h : (x.take n).2 = true := by
   unfold Led.take
   rw [if_neg (by simpa using hx), if_neg (by omega)]
  unfold Dec.run
  rw [if_pos h]
  obtain ⟨_, h2, h3, h4, h5, h6, h7, h8⟩ := led_take_yes h
  exact ih _ e _ h2 hk (by rw [h3]; omega) (by rw [h6, h7, h8]; exact hm) (by rw [h4, h5]; exact hc)
end Go.Proofs.YtlehkgkomjojmaaGreat
namespace Go.Proofs.YtlehkgkomjojmaaGreat
open Go.RowKit
set_option linter.unusedVariables false
set_option linter.unusedSimpArgs false

structure Qc where
 r : UInt8
 g : UInt8
 b : UInt8
 a : UInt8
deriving DecidableEq
def Qc.list (q : Qc) : List UInt8 := [q.r, q.g, q.b, q.a]
def Qc.v (q : Qc) : Value := .agg #[.int .u8 (q.r.toNat : Int), .int .u8 (q.g.toNat : Int), .int .u8 (q.b.toNat : Int), .int .u8 (q.a.toNat : Int)]
def flat (L : List Qc) : List UInt8 := (L.map Qc.list).flatten
theorem flat_len (L : List Qc) : (flat L).length = 4 * L.length := by
 induction L with
 | nil => rfl
 | cons q L ih =>
  simp only [flat, List.map_cons, List.flatten_cons, List.length_append, List.length_cons] at ih ⊢
  rw [ih]
  simp [Qc.list]
  omega
theorem flat_append (L M : List Qc) : flat (L ++ M) = flat L ++ flat M := by simp [flat]
theorem flat_at (L : List Qc) (i : Nat) (q : Qc) (h : L[i]? = some q) (m : List UInt8) : ((flat L ++ m).drop (4 * i)).take 4 = q.list := by
 induction L generalizing i with
 | nil => simp at h
 | cons x L ih =>
  have e : flat (x :: L) = x.list ++ flat L := by simp [flat]
  cases i with
  | zero =>
   have hx : x = q := by simpa using h
   subst hx
   rw [e, Nat.mul_zero, List.drop_zero]
   simp [Qc.list]
  | succ i =>
   have e4 : 4 * (i + 1) = x.list.length + 4 * i := by simp [Qc.list]; omega
   rw [e, List.append_assoc, e4, ← List.drop_drop, List.drop_left]
   exact ih i (by simpa using h)
def Qc.cells (q : Qc) : List Value := [.int .u8 (q.r.toNat : Int), .int .u8 (q.g.toNat : Int), .int .u8 (q.b.toNat : Int), .int .u8 (q.a.toNat : Int)]
def cq (L : List Qc) : List Value := (L.map Qc.cells).flatten
theorem cq_len (L : List Qc) : (cq L).length = L.length * 4 := by
 induction L with
 | nil => rfl
 | cons q L ih =>
  simp only [cq, List.map_cons, List.flatten_cons, List.length_append, List.length_cons] at ih ⊢
  rw [ih]
  simp [Qc.cells]
  omega
theorem cq_append (L M : List Qc) : cq (L ++ M) = cq L ++ cq M := by simp [cq]
theorem cq_at (L : List Qc) (i j : Nat) (q : Qc) (h : L[i]? = some q) (hj : j < 4) : (cq L)[i * 4 + j]? = q.cells[j]? := by
 induction L generalizing i with
 | nil => simp at h
 | cons x L ih =>
  have e : cq (x :: L) = x.cells ++ cq L := by simp [cq]
  have hx4 : x.cells.length = 4 := rfl
  cases i with
  | zero =>
   have hx : x = q := by simpa using h
   subst hx
   rw [e, Nat.zero_mul, Nat.zero_add, List.getElem?_append_left (by omega)]
  | succ i =>
   rw [e, List.getElem?_append_right (by omega), hx4, show (i + 1) * 4 + j - 4 = i * 4 + j by omega]
   exact ih i (by simpa using h)
theorem cq_one_cell {L : List Qc} {u : Value} (h : u ∈ cq L) : u.oneCell' = true := by
 simp only [cq, List.mem_flatten, List.mem_map] at h
 obtain ⟨l, ⟨q, _, rfl⟩, hu⟩ := h
 simp only [Qc.cells, List.mem_cons, List.not_mem_nil, or_false] at hu
 rcases hu with rfl | rfl | rfl | rfl <;> rfl
def OwnsQ (w : World) (base : Nat) (v : Value) (L : List Qc) : Prop := w.ownsRow base 68 4 v L.length (cq L)
/-- four cells a colour, from an address on -/
def QAt (w : World) (b off : Nat) (L : List Qc) : Prop := ∀ i q, L[i]? = some q → w.cell? ⟨b, off + i * 4, none⟩ = some (.int .u8 (q.r.toNat : Int)) ∧ w.cell? ⟨b, off + i * 4 + 1, none⟩ = some (.int .u8 (q.g.toNat : Int)) ∧ w.cell? ⟨b, off + i * 4 + 2, none⟩ = some (.int .u8 (q.b.toNat : Int)) ∧ w.cell? ⟨b, off + i * 4 + 3, none⟩ = some (.int .u8 (q.a.toNat : Int))
section
variable {w w' : World} {base : Nat} {v : Value} {L : List Qc}
theorem OwnsQ.alloc (h : OwnsQ w base v L) (o : Obj) : OwnsQ (w.alloc o) base v L := World.ownsRow.alloc h o
theorem OwnsQ.kept {row : Option Nat} (h : OwnsQ w base v L) (hg : w.grownBy w' row) (hne : v.ownBlock = none ∨ v.ownBlock ≠ row) : OwnsQ w' base v L := World.ownsRow.kept h hg hne
theorem OwnsQ.below (h : OwnsQ w base v L) (hb : Below w.heap.size w w') : OwnsQ w' base v L :=
 h.kept (row := none) ⟨hb.os, hb.tape, hb.output, hb.size, fun i hi _ => hb.block i hi⟩ (by cases v.ownBlock <;> simp)
theorem OwnsQ.turn {S : List Nat} (o : OwnsQ w base v L) (k : Turn S w w') (hS : ∀ i ∈ S, ∃ t cs, Blk w i t cs ∧ t ≠ 68) : OwnsQ w' base v L := by
 refine ⟨o.1, ?_⟩
 rcases o.2 with h | ⟨r, cap, cur, hv, hb, hr, h4, h5, h6, h7⟩
 ·exact .inl h
 ·refine .inr ⟨r, cap, cur, hv, hb, ?_, h4, h5, h6, h7⟩
  exact Blk.turn hr k (fun hm => by obtain ⟨t, cs, hbk, hn⟩ := hS r hm; exact Blk.ne_ hbk hr hn rfl)
theorem OwnsQ.form (h : OwnsQ w base v L) : (v = .slice none 0 0 ∧ L = []) ∨ ∃ g cap, v = .slice (some ⟨g, 0, none⟩) L.length cap ∧ base ≤ g ∧ g < w.heap.size ∧ L.length ≤ cap ∧ QAt w g 0 L := by
 rcases h.2 with ⟨rfl, hn⟩ | ⟨g, cap, cur, rfl, hb, hg, hc, hm, hs, ht⟩
 ·exact .inl ⟨rfl, List.eq_nil_of_length_eq_zero hn⟩
 ·refine .inr ⟨g, cap, rfl, hb, (World.ownsRow.lt h g rfl).2, hc, fun i q hi => ?_⟩
  have hil := (List.getElem?_eq_some_iff.1 hi).1
  have key : ∀ j, j < 4 → w.cell? ⟨g, i * 4 + j, none⟩ = q.cells[j]? := fun j hj => by
   rw [cell_of_row w g (i * 4 + j) cur _ (0, 0) hg, ← Array.getElem?_toList, ← cq_at L i j q hi hj, ← ht, List.getElem?_take_of_lt (by omega)]
  rw [Nat.zero_add]
  exact ⟨key 0 (by omega), key 1 (by omega), key 2 (by omega), key 3 (by omega)⟩
end
theorem infoQ : (Tryz.prog.info? 68).map (fun i => (i.zero, i.size, i.bytes)) = some (some (.agg #[.int .u8 0, .int .u8 0, .int .u8 0, .int .u8 0]), 4, 4) := by kernel_rfl
/-- append of colours that lie in memory -/
theorem wpList_append_cols {ops : Array Oper} {rest : List Oper} {o : Oper} {a : Act} {Q : Exit → Act → World → Prop} {w : World} (hgd : o.guard = none) (s x : Operand)
  (ho : o.op = .call { callee := .builtin .append, args := #[s, x], argTypes := #[42, 42] })
  (base : Nat) (v : Value) (L : List Qc) (hs : a.eval s = v) (hown : OwnsQ w base v L)
  (g n c : Nat) (M : List Qc) (hn : n = M.length) (hx : a.eval x = .slice (some ⟨g, 0, none⟩) n c) (hM : QAt w g 0 M)
  (hlen : L.length + M.length < 1099511627776) (hbase : base ≤ w.heap.size)
  (h : ∀ v' w', OwnsQ w' base v' (L ++ M) → Below base w w' → w.grownBy w' v.ownBlock → wpList Tryz.prog ops Q rest (a.put o.dst v') w') : wpList Tryz.prog ops Q (o :: rest) a w := by
 obtain ⟨i0, hi, hz0, hzs, hzb⟩ := info_parts infoQ
 subst hn
 refine wpList_append_own (P := Tryz.prog) w hgd s x 42 ho base 68 i0 _ 4 4 Tryz.underlying42 hi hz0 hzs hzb rfl (by decide) v L.length (cq L) hs hown ⟨g, 0, none⟩ M.length c (cq M) hx (cq_len M) ?_ (fun u hu => cq_one_cell hu) (by unfold maxLen; omega) (by omega) hbase ?_
 ·intro j u hj
  have hjl : j < (cq M).length := (List.getElem?_eq_some_iff.1 hj).1
  rw [cq_len] at hjl
  obtain ⟨qq, hq⟩ : ∃ qq, M[j / 4]? = some qq := ⟨_, List.getElem?_eq_getElem (show j / 4 < M.length by omega)⟩
  have e := hM (j / 4) _ hq
  have ej : j / 4 * 4 + j % 4 = j := by omega
  have hc := cq_at M (j / 4) (j % 4) _ hq (by omega)
  rw [ej, hj] at hc
  rw [show (⟨g, 0, none⟩ : Addr).add j = ⟨g, j, none⟩ by unfold Addr.add; split <;> simp_all]
  rw [Nat.zero_add] at e
  have h4 : j % 4 < 4 := by omega
  generalize j % 4 = r at h4 ej hc
  rw [hc, ← ej]
  match r, h4 with
  | 0, _ => exact e.1
  | 1, _ => exact e.2.1
  | 2, _ => exact e.2.2.1
  | 3, _ => exact e.2.2.2
 ·intro v' w' h1 h2 _
  refine h v' w' ?_ ((Below.refl _ _).grown h2 hbase fun k hk => (World.ownsRow.lt hown k hk).1) h2
  show World.ownsRow _ _ _ _ _ _ _
  rw [List.length_append, cq_append]
  exact h1
theorem q_new (w : World) (q : Qc) : QAt (w.alloc (.cells #[.int .u8 (q.r.toNat : Int), .int .u8 (q.g.toNat : Int), .int .u8 (q.b.toNat : Int), .int .u8 (q.a.toNat : Int)] 68)) w.heap.size 0 [q] := by
 intro i q' hi
 cases i with
 | zero =>
  have : q = q' := by simpa using hi
  subst this
  exact ⟨cell_new _ _ _ 0 _ rfl, cell_new _ _ _ 1 _ rfl, cell_new _ _ _ 2 _ rfl, cell_new _ _ _ 3 _ rfl⟩
 | succ i => simp at hi
theorem QAt.below {w w' : World} {b off : Nat} {C : List Qc} (h : QAt w b off C) (hb : Below w.heap.size w w') : QAt w' b off C := fun i q hi => by
 obtain ⟨h0, h1, h2, h3⟩ := h i q hi
 have hl := World.block_lt_of_cell? w _ h0
 exact ⟨(hb.cell (p := ⟨b, off + i * 4, none⟩) hl).trans h0, (hb.cell (p := ⟨b, off + i * 4 + 1, none⟩) hl).trans h1, (hb.cell (p := ⟨b, off + i * 4 + 2, none⟩) hl).trans h2, (hb.cell (p := ⟨b, off + i * 4 + 3, none⟩) hl).trans h3⟩
theorem Blk.grownQ {w w' : World} {base k : Nat} {t : TypeId} {cs : Array Value} {v : Value} {L : List Qc} (h : Blk w k t cs) (o : OwnsQ w base v L) (ht : t ≠ 68) (hg : w.grownBy w' v.ownBlock) : Blk w' k t cs :=
 h.grown hg (fun e => by
  rcases o.2 with ⟨rfl, _⟩ | ⟨r, cap, cur, rfl, _, hr, _⟩
  ·cases e
  ·have hk : k = r := by simpa [Value.ownBlock] using e
   subst hk
   exact Blk.ne_ h hr ht rfl)
theorem OwnsQ.slice {w : World} {base : Nat} {v : Value} {L : List Qc} (h : OwnsQ w base v L) : ∃ a c, v = .slice a L.length c := by
 rcases h.form with ⟨rfl, rfl⟩ | ⟨g, cap, rfl, _⟩
 ·exact ⟨none, 0, rfl⟩
 ·exact ⟨_, _, rfl⟩
theorem OwnsQ.at_ {w : World} {base g n c : Nat} {L : List Qc} (h : OwnsQ w base (.slice (some ⟨g, 0, none⟩) n c) L) : QAt w g 0 L := by
 rcases h.form with ⟨e, rfl⟩ | ⟨g', cap, e, _, _, _, hq⟩
 ·cases e
 ·simp only [Value.slice.injEq, Option.some.injEq, Addr.mk.injEq] at e
  rw [e.1.1]
  exact hq
end Go.Proofs.YtlehkgkomjojmaaGreat
namespace Go.Proofs.YtlehkgkomjojmaaGreat
set_option linter.unusedVariables false

def smay (v m : Int) : Bool := decide (1 ≤ m ∧ m ≤ 4294967295 ∧ 0 ≤ v ∧ v ≤ m)
def sround (v m : Int) : Int := (2 * v * 255 + m) / (2 * m)
def smax (v m : Int) : Int := if smay v m = true then sround v m else 0
def rfar (v m x : Int) : Int := if v * 255 - x * m < 0 then -(v * 255 - x * m) else v * 255 - x * m
def rbest (v m : Int) : Nat → Int
 | 0 => 0
 | k + 1 => if rfar v m ((k : Int) + 1) ≤ rfar v m (rbest v m k) then (k : Int) + 1 else rbest v m k

theorem smay_iff {v m : Int} : smay v m = true ↔ 1 ≤ m ∧ m ≤ 4294967295 ∧ 0 ≤ v ∧ v ≤ m := by simp [smay]

/-- what the rounded quotient is: the bounds of its product -/
theorem sround_spec {v m : Int} (h1 : 1 ≤ m) : 2 * (sround v m * m) ≤ 2 * v * 255 + m ∧ 2 * v * 255 + m < 2 * (sround v m * m) + 2 * m := by
 unfold sround
 have hm : 0 < 2 * m := by omega
 have a := Int.mul_ediv_add_emod (2 * v * 255 + m) (2 * m)
 have b := Int.emod_nonneg (2 * v * 255 + m) (show 2 * m ≠ 0 by omega)
 have c := Int.emod_lt_of_pos (2 * v * 255 + m) hm
 have e : 2 * m * ((2 * v * 255 + m) / (2 * m)) = 2 * ((2 * v * 255 + m) / (2 * m) * m) := by
  rw [Int.mul_assoc, Int.mul_comm m]
 rw [e] at a
 omega

theorem sround_unique {v m t : Int} (h1 : 1 ≤ m) (a : 2 * (t * m) ≤ 2 * v * 255 + m) (b : 2 * v * 255 + m < 2 * (t * m) + 2 * m) : sround v m = t := by
 obtain ⟨c, d⟩ := sround_spec (v := v) h1
 rcases Int.lt_trichotomy (sround v m) t with h | h | h
 ·have : (sround v m + 1) * m ≤ t * m := Int.mul_le_mul_of_nonneg_right (by omega) (by omega)
  rw [Int.add_mul] at this; omega
 ·exact h
 ·have : (t + 1) * m ≤ sround v m * m := Int.mul_le_mul_of_nonneg_right (by omega) (by omega)
  rw [Int.add_mul] at this; omega

theorem sround_range {v m : Int} (h1 : 1 ≤ m) (h3 : 0 ≤ v) (h4 : v ≤ m) : 0 ≤ sround v m ∧ sround v m ≤ 255 := by
 obtain ⟨c, d⟩ := sround_spec (v := v) h1
 constructor
 ·rcases Int.lt_or_le (sround v m) 0 with h | h
  ·have : sround v m * m ≤ (-1) * m := Int.mul_le_mul_of_nonneg_right (by omega) (by omega)
   omega
  ·exact h
 ·rcases Int.lt_or_le 255 (sround v m) with h | h
  ·have : 256 * m ≤ sround v m * m := Int.mul_le_mul_of_nonneg_right (by omega) (by omega)
   omega
  ·exact h

theorem rfar_down {v m k : Int} (h1 : 1 ≤ m) (h : k + 1 ≤ sround v m) : rfar v m (k + 1) ≤ rfar v m k := by
 obtain ⟨c, d⟩ := sround_spec (v := v) h1
 have : (k + 1) * m ≤ sround v m * m := Int.mul_le_mul_of_nonneg_right h (by omega)
 unfold rfar
 rw [Int.add_mul] at *
 split <;> split <;> omega

theorem rfar_up {v m k : Int} (h1 : 1 ≤ m) (h : sround v m ≤ k) : ¬ rfar v m (k + 1) ≤ rfar v m (sround v m) := by
 obtain ⟨c, d⟩ := sround_spec (v := v) h1
 have : (sround v m + 1) * m ≤ (k + 1) * m := Int.mul_le_mul_of_nonneg_right (by omega) (by omega)
 unfold rfar
 rw [Int.add_mul] at *
 rw [Int.add_mul] at *
 split <;> split <;> omega

theorem rbest_eq {v m : Int} (h1 : 1 ≤ m) (h3 : 0 ≤ v) (h4 : v ≤ m) (k : Nat) : rbest v m k = if (k : Int) ≤ sround v m then (k : Int) else sround v m := by
 induction k with
 | zero => simp [rbest, (sround_range h1 h3 h4).1]
 | succ k ih =>
  simp only [rbest, ih]
  by_cases hk : (k : Int) + 1 ≤ sround v m
  ·rw [if_pos (show (k : Int) ≤ sround v m by omega), if_pos (rfar_down h1 hk), if_pos (by omega)]
   omega
  ·by_cases hk' : (k : Int) ≤ sround v m
   ·obtain e : (k : Int) = sround v m := by omega
    rw [if_pos hk', e, if_neg (rfar_up h1 (Int.le_refl _)), if_neg (by omega)]
   ·rw [if_neg hk', if_neg (rfar_up h1 (by omega)), if_neg (by omega)]

theorem rbest_all {v m : Int} (h1 : 1 ≤ m) (h3 : 0 ≤ v) (h4 : v ≤ m) : rbest v m 255 = sround v m := by
 rw [rbest_eq h1 h3 h4]
 have := sround_range h1 h3 h4
 split
 ·have h : ((255 : Nat) : Int) = 255 := rfl
  omega
 ·rfl

theorem rbest_range (v m : Int) (k : Nat) : 0 ≤ rbest v m k ∧ rbest v m k ≤ k := by
 induction k with
 | zero => simp [rbest]
 | succ k ih =>
  simp only [rbest]
  split <;> omega

/-- a greater sample is never less -/
theorem sround_mono {a b m : Int} (h1 : 1 ≤ m) (h : a ≤ b) : sround a m ≤ sround b m := by
 obtain ⟨c, d⟩ := sround_spec (v := a) h1
 obtain ⟨e, f⟩ := sround_spec (v := b) h1
 rcases Int.lt_or_le (sround b m) (sround a m) with g | g
 ·have : (sround b m + 1) * m ≤ sround a m * m := Int.mul_le_mul_of_nonneg_right (by omega) (by omega)
  rw [Int.add_mul] at this
  omega
 ·exact g
theorem sround_top {m : Int} (h1 : 1 ≤ m) : sround m m = 255 := sround_unique h1 (by omega) (by omega)
end Go.Proofs.YtlehkgkomjojmaaGreat
namespace Go.Proofs.YtlehkgkomjojmaaGreat
set_option linter.unusedVariables false
open Go.RowKit

theorem scaleMax_no (v m : Int) (w : World) (h : smay v m = false) :
  Calls Tryz.prog 212 #[.int .i64 v, .int .i64 m] w fun e w' => e = .returned (.tuple #[.int .u8 0, .bool false]) ∧ w = w' := by
 have h' : ¬ (1 ≤ m ∧ m ≤ 4294967295 ∧ 0 ≤ v ∧ v ≤ m) := by simpa [smay] using h
 clear h
 by_cases h1 : m < 1
 ·go_enter Tryz.func212, Tryz.ntmps212
  go_wp2
  go_ret2
  exact ⟨rfl, rfl⟩
 by_cases h2 : 4294967295 < m
 ·go_enter Tryz.func212, Tryz.ntmps212
  go_wp2
  go_ret2
  exact ⟨rfl, rfl⟩
 by_cases h3 : v < 0
 ·go_enter Tryz.func212, Tryz.ntmps212
  go_wp2
  go_ret2
  exact ⟨rfl, rfl⟩
 have h4 : m < v := by omega
 go_enter Tryz.func212, Tryz.ntmps212
 go_wp2
 go_ret2
 exact ⟨rfl, rfl⟩

theorem scaleMax_yes (v m : Int) (w : World) (h : smay v m = true) :
  Calls Tryz.prog 212 #[.int .i64 v, .int .i64 m] w fun e w' => e = .returned (.tuple #[.int .u8 (sround v m), .bool true]) ∧ w = w' := by
 obtain ⟨h1, h2, h3, h4⟩ := smay_iff.1 h
 have hr := sround_range h1 h3 h4
 clear h
 go_enter Tryz.func212, Tryz.ntmps212
 go_wp2
 go_ret2
 refine ⟨ret2 (vint ?_) rfl, rfl⟩
 show sround v m % 256 = _
 omega

/-- both ways in one -/
theorem scaleMax_any (v m : Int) (w : World) :
  Calls Tryz.prog 212 #[.int .i64 v, .int .i64 m] w fun e w' => e = .returned (.tuple #[.int .u8 (smax v m), .bool (smay v m)]) ∧ w = w' := by
 cases h : smay v m
 ·rw [show smax v m = 0 by simp [smax, h]]; exact scaleMax_no v m w h
 ·rw [show smax v m = sround v m by simp [smax, h]]; exact scaleMax_yes v m w h

theorem refFar_any (v m x : Int) (w : World) (h2 : m ≤ 4294967295) (h3 : 0 ≤ v) (h4 : v ≤ m) (h5 : 0 ≤ x) (h6 : x ≤ 255) :
  Calls Tryz.prog 209 #[.int .i64 v, .int .i64 m, .int .i64 x] w fun e w' => e = .returned (.int .i64 (rfar v m x)) ∧ w = w' := by
 have hm : x * m ≤ 255 * 4294967295 := Int.mul_le_mul h6 h2 (by omega) (by omega)
 have hm0 : 0 ≤ x * m := Int.mul_nonneg h5 (by omega)
 by_cases hd : v * 255 - x * m < 0
 ·have e : rfar v m x = -(v * 255 - x * m) := if_pos hd
  rw [e]
  clear e
  go_enter Tryz.func209, Tryz.ntmps209
  go_wp2
  go_ret
  exact ⟨ret1 (vint (by omega)), rfl⟩
 ·have e : rfar v m x = (v * 255 - x * m) := if_neg hd
  rw [e]
  clear e
  go_enter Tryz.func209, Tryz.ntmps209
  go_wp2
  go_ret
  exact ⟨ret1 (vint (by omega)), rfl⟩

set_option maxRecDepth 100000 in
theorem refMax_any (v m : Int) (w : World) (h : smay v m = true) :
  Calls Tryz.prog 200 #[.int .i64 v, .int .i64 m] w fun e w' => e = .returned (.int .i64 (sround v m)) ∧ w = w' := by
 obtain ⟨h1, h2, h3, h4⟩ := smay_iff.1 h
 have ha := Lib.hid (rbest_all h1 h3 h4)
 clear h h1
 go_enter Tryz.func200, Tryz.ntmps200
 go_wp2
 go_loop [5, 6] (fun b x => ∃ k : Nat, k ≤ 255 ∧ x = .int .i64 ((k : Int) + 1) ∧ b = .int .i64 (rbest v m k)) (fun _ x => 256 - (intOf x).toNat)
 case atStart => exact ⟨0, by omega, rfl, rfl⟩
 case round =>
  obtain ⟨k, hk, rfl, rfl⟩ := hrel
  have hb := rbest_range v m k
  by_cases hlt : k < 255
  ·by_cases hc : rfar v m ((k : Int) + 1) ≤ rfar v m (rbest v m k)
   ·have e := Lib.hid (show rbest v m (k + 1) = (k : Int) + 1 by rw [rbest, if_pos hc])
    go_wp2_with (go_at_call 209; refine (refFar_any _ _ _ _ h2 h3 h4 (by omega) (by omega)).mono ?_; rintro e w' ⟨rfl, rfl⟩)
    go_round
    case rel => exact ⟨k + 1, by omega, by go_num, by rw [e.out]⟩
    case measure => simp [intOf]; omega
   ·have e := Lib.hid (show rbest v m (k + 1) = rbest v m k by rw [rbest, if_neg hc])
    go_wp2_with (go_at_call 209; refine (refFar_any _ _ _ _ h2 h3 h4 (by omega) (by omega)).mono ?_; rintro e w' ⟨rfl, rfl⟩)
    go_round
    case rel => exact ⟨k + 1, by omega, by go_num, by rw [e.out]⟩
    case measure => simp [intOf]; omega
  ·obtain rfl : k = 255 := by omega
   go_wp2
   go_ret
   exact ⟨ret1 (vint ha.out), rfl⟩

theorem two_pow_bounds (n : Nat) (h : n ≤ 32) : 1 ≤ (2 : Int) ^ n ∧ (2 : Int) ^ n ≤ 4294967296 := by
 have a : 2 ^ n ≤ 2 ^ 32 := Nat.pow_le_pow_right (by omega) h
 have b : 1 ≤ 2 ^ n := Nat.one_le_two_pow
 have c : (2 : Int) ^ n = ((2 ^ n : Nat) : Int) := by simp
 have d : (2 ^ 32 : Nat) = 4294967296 := rfl
 rw [c]
 omega

theorem scaleBits_yes (v : Int) (n : Nat) (w : World) (h1 : 1 ≤ n) (h2 : n ≤ 32) :
  Calls Tryz.prog 213 #[.int .i64 v, .int .i64 n] w fun e w' => e = .returned (.tuple #[.int .u8 (smax v ((2 : Int) ^ n - 1)), .bool (smay v ((2 : Int) ^ n - 1))]) ∧ w = w' := by
 obtain ⟨a, b⟩ := two_pow_bounds n h2
 go_enter Tryz.func213, Tryz.ntmps213
 go_wp2_with (go_at_call 212; refine (scaleMax_any _ _ _).mono ?_; rintro e w' ⟨rfl, rfl⟩)
 go_ret2
 exact ⟨rfl, rfl⟩

end Go.Proofs.YtlehkgkomjojmaaGreat
namespace Go.Proofs.YtlehkgkomjojmaaGreat
set_option linter.unusedVariables false
open Go.RowKit

end Go.Proofs.YtlehkgkomjojmaaGreat
namespace Go.Proofs.YtlehkgkomjojmaaGreat
set_option linter.unusedVariables false

/-- a sample of a pixel -/
def ffU (s : ByteArray) (i : Nat) : UInt8 := UInt8.ofNat (sround (beN s i 2 : Int) 65535).toNat
def ffQ (s : ByteArray) (k : Nat) : List UInt8 := [ffU s (16 + 8 * k), ffU s (16 + 8 * k + 2), ffU s (16 + 8 * k + 4), ffU s (16 + 8 * k + 6)]
def ffBytes (s : ByteArray) : Nat → List UInt8
 | 0 => []
 | n + 1 => ffBytes s n ++ ffQ s n
theorem ffBytes_len (s : ByteArray) (n : Nat) : (ffBytes s n).length = 4 * n := by
 induction n with
 | zero => rfl
 | succ n ih => unfold ffBytes; rw [List.length_append, ih]; simp [ffQ]; omega
end Go.Proofs.YtlehkgkomjojmaaGreat
namespace Go.Proofs.YtlehkgkomjojmaaGreat
open Go.ChangeShapes Go.WideShapes Go.Deep Go.RowKit
set_option linter.unusedVariables false

/-- empty, or a row of ints of the kind -/
def SliceInts (k : IntKind) (w : World) (a : Option Addr) (n : Nat) (l : List Int) : Prop :=
 n = 0 ∨ ∃ b off, a = some ⟨b, off, none⟩ ∧ n ≤ maxLen ∧ l.length = n ∧ ∀ i, i < n → (Lit.int k (l.getD i 0)).wf = true ∧ w.cell? ⟨b, off + i, none⟩ = some (.int k (l.getD i 0))

section
variable {H : Type} {enc : TypeId × Value → H} {P : Program} {w : World} {base : Nat} {spare : Nat → Bool} {held : Bool}
theorem ints_of {t e : TypeId} {k : IntKind} {a : Option Addr} {len cap : Nat} {d : DataW H} {p : List MemPlace} (ht : P.underlying t = some (.slice e)) (he : P.underlying e = some (.int k)) (hc : P.cellsOf e = 1) (hsp : ∀ b, spare b = true)
  (h : DataW.Trod enc P w base spare held t (.slice a len cap) d p) : ∃ l, SliceInts k w a len l := by
 obtain ⟨fuel, hf⟩ := h
 simp only [Value.cells] at hf
 rcases open_slice1 ht hc hf with ⟨hcs, _⟩ | ⟨a', len', cap', m, n, V, D, Pl, hcs, hb, hl, hm, hmm, hx, hi⟩
 ·simp only [List.cons.injEq, Value.slice.injEq] at hcs
  exact ⟨[], .inl hcs.1.2.1⟩
 ·simp only [List.cons.injEq, Value.slice.injEq] at hcs
  obtain ⟨⟨rfl, rfl, rfl⟩, _⟩ := hcs
  rcases Nat.eq_zero_or_pos len with h0 | hp
  ·exact ⟨[], .inl h0⟩
  have hmlen : m = cap := by rw [hmm, hsp, if_pos rfl]
  obtain ⟨b, off, spot⟩ := a'
  have hspot : spot = none := by
   have hc0 := (hi 0 (by omega)).1
   have e : ((⟨b, off, spot⟩ : Addr).add 0) = ⟨b, off, spot⟩ := by simp [Addr.add]
   rw [e] at hc0
   simpa using World.cell?_spot hc0
  subst hspot
  have key : ∀ i, ∃ z : Int, i < len → (Lit.int k z).wf = true ∧ w.cell? ⟨b, off + i, none⟩ = some (.int k z) := by
   intro i
   by_cases hil : i < len
   ·obtain ⟨c0, t0⟩ := hi i (by omega)
    obtain ⟨z, e0, _, f0⟩ := DataW.trod_int he t0
    have ev : V i = .int k z := by simpa using e0
    have ea : ((⟨b, off, none⟩ : Addr).add i) = ⟨b, off + i, none⟩ := by
     unfold Addr.add
     split
     ·rename_i h; subst h; rfl
     ·rfl
    rw [ev, ea] at c0
    exact ⟨z, fun _ => ⟨f0, c0⟩⟩
   ·exact ⟨0, fun h => absurd h hil⟩
  obtain ⟨f, hf'⟩ := Classical.axiomOfChoice key
  have hg : ∀ i, i < len → ((List.range len).map f).getD i 0 = f i := fun i hi => by
   simp [List.getD_eq_getElem?_getD, hi]
  refine ⟨(List.range len).map f, .inr ⟨b, off, rfl, by omega, by simp, fun i hi => ?_⟩⟩
  rw [hg i hi]
  exact hf' i hi
end
end Go.Proofs.YtlehkgkomjojmaaGreat
namespace Go.Proofs.YtlehkgkomjojmaaGreat
open Go.RowKit
set_option linter.unusedVariables false

def sclN (m : Nat) : Nat := min m 255 + 1
/-- the table, its first q samples laid -/
def sclTab (m q : Nat) : Array Value := ((List.range (sclN m)).map fun j => Value.int .u8 (if j < q then smax (j : Int) (m : Int) else 0)).toArray
def sclCells (m : Nat) (done mu : Int) (t : Value) : Array Value := #[.int .i64 (m : Int), .int .u32 done, .int .i32 mu, .int .u32 0, t]
end Go.Proofs.YtlehkgkomjojmaaGreat
