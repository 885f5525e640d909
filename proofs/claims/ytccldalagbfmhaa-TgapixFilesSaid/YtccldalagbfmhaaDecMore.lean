/- Plain: small words of decoders: a byte as a number, steps of work, what is wrong first. Four bytes, the highest first; boxes of what a head tells beside a fault. -/
import Derived.Test.YtccldalagbfmhaaDecLaw
import Derived.Test.YtccldalagbfmhaaCols
import Derived.Test.YtccldalagbfmhaaFfD
import Derived.Test.YtccldalagbfmhaaFfRef
namespace Go.Proofs.Ytccldalagbfmhaa
set_option linter.unusedVariables false

def b8 (s : ByteArray) (i : Nat) : UInt8 := UInt8.ofNat (bat s i)
theorem b8_int (s : ByteArray) (i : Nat) : ((b8 s i).toNat : Int) = (bat s i : Int) := ofNat8 (bat_lt s i)
/-- so many steps of work -/
def works (z a : Nat) (k : Dec) : Nat → Dec
  | 0 => k
  | n + 1 => .work 1 z a (works z a k n)
theorem works_bal {e z a : Nat} {k : Dec} (ha : a ≤ e) (hk : k.bal e z) : ∀ n, (works z a k n).bal e z := by
  intro n
  induction n with
  | zero => exact hk
  | succ n ih => exact ⟨rfl, ha, ih⟩
theorem works_cost (z a : Nat) (k : Dec) : ∀ n, (works z a k n).cost = n + k.cost := by
  intro n
  induction n with
  | zero => simp [works]
  | succ n ih =>
    show (1 : Int).toNat + (works z a k n).cost = n + 1 + k.cost
    rw [ih]; have : (1 : Int).toNat = 1 := rfl; omega
theorem works_may {z a : Nat} {k : Dec} {B w h : Int} (hk : k.may B w h) : ∀ n, (works z a k n).may B w h := by
  intro n
  induction n with
  | zero => exact hk
  | succ n ih => exact ⟨by decide, ih⟩
theorem works_told (z a : Nat) (k : Dec) : ∀ n, (works z a k n).told = k.told := by
  intro n
  induction n with
  | zero => rfl
  | succ n ih => exact ih
theorem give_bal {e z k a : Nat} (hk : k ≠ 4) (ha : a ≤ e) : (Dec.give z (.fin (.bad k a))).bal e z := ⟨Nat.le_refl _, by omega, hk, ha⟩
/-- the first of what is wrong -/
def firstBad (L : List (Bool × Nat × Nat)) : Option (Nat × Nat) := (L.find? (·.1)).map (·.2)
theorem firstBad_none {L : List (Bool × Nat × Nat)} (h : firstBad L = none) : ∀ x ∈ L, x.1 = false := by
  unfold firstBad at h
  rw [Option.map_eq_none_iff, List.find?_eq_none] at h
  intro x hx
  simpa using h x hx
theorem firstBad_at {L : List (Bool × Nat × Nat)} {i : Nat} {f : Nat × Nat} (hb : ∀ j, j < i → (L[j]?.map (·.1)) = some false) (h : L[i]? = some (true, f)) : firstBad L = some f := by
  induction L generalizing i with
  | nil => simp at h
  | cons x L ih =>
    cases i with
    | zero =>
      have hx : x = (true, f) := by simpa using h
      subst hx
      rfl
    | succ i =>
      have h0 : x.1 = false := by simpa using hb 0 (by omega)
      have e : firstBad (x :: L) = firstBad L := by unfold firstBad; rw [List.find?_cons, h0]
      rw [e]
      exact ih (i := i) (fun j hj => by simpa using hb (j + 1) (by omega)) (by simpa using h)
theorem firstBad_all {L : List (Bool × Nat × Nat)} (h : ∀ x ∈ L, x.1 = false) : firstBad L = none := by
  unfold firstBad
  rw [Option.map_eq_none_iff, List.find?_eq_none]
  intro x hx
  simp [h x hx]
/-- checks as cells: three each -/
def chkV (L : List (Bool × Nat × Nat)) : List Value := (L.map fun x => [Value.bool x.1, .int .i64 (x.2.1 : Int), .int .i64 (x.2.2 : Int)]).flatten
theorem chkV_at {L : List (Bool × Nat × Nat)} {i : Nat} {x : Bool × Nat × Nat} (h : L[i]? = some x) : (chkV L)[i * 3]? = some (.bool x.1) ∧ (chkV L)[i * 3 + 1]? = some (.int .i64 (x.2.1 : Int)) ∧ (chkV L)[i * 3 + 2]? = some (.int .i64 (x.2.2 : Int)) := by
  induction L generalizing i with
  | nil => simp at h
  | cons y L ih =>
    have e : chkV (y :: L) = [Value.bool y.1, .int .i64 (y.2.1 : Int), .int .i64 (y.2.2 : Int)] ++ chkV L := by simp [chkV]
    cases i with
    | zero =>
      have hx : y = x := by simpa using h
      subst hx
      rw [e]
      exact ⟨rfl, rfl, rfl⟩
    | succ i =>
      have hi := ih (i := i) (by simpa using h)
      rw [e, show (i + 1) * 3 = i * 3 + 3 by omega]
      rw [List.getElem?_append_right (by simp only [List.length_cons, List.length_nil]; omega), List.getElem?_append_right (by simp only [List.length_cons, List.length_nil]; omega), List.getElem?_append_right (by simp only [List.length_cons, List.length_nil]; omega)]
      simp only [List.length_cons, List.length_nil]
      rw [show i * 3 + 3 - (0 + 1 + 1 + 1) = i * 3 by omega, show i * 3 + 3 + 1 - (0 + 1 + 1 + 1) = i * 3 + 1 by omega, show i * 3 + 3 + 2 - (0 + 1 + 1 + 1) = i * 3 + 2 by omega]
      exact hi
theorem int_beq0 (n : Nat) : ((n : Int) == 0) = decide (n = 0) := by
  rw [Bool.eq_iff_iff, decide_eq_true_iff, beq_iff_eq]
  omega
theorem int_lt (a n : Nat) : decide ((a : Int) < (n : Int)) = decide (a < n) := by
  rw [Bool.eq_iff_iff, decide_eq_true_iff, decide_eq_true_iff]
  omega
theorem not_dec {p : Prop} [Decidable p] : (!decide p) = decide (¬ p) := by simp
theorem give_zero {x : Led} (h : 0 ≤ x.bytes) : (x.give ((0 : Nat) : Int)).1 = x := by
  rw [led_give_yes (by omega) (by omega)]
  cases x; simp
theorem give_give {x : Led} {m n : Nat} (h : (m : Int) + n ≤ x.bytes) : ((x.give (m : Int)).1.give (n : Int)).1 = (x.give ((n + m : Nat) : Int)).1 := by
  rw [led_give_yes (x := x) (n := (m : Int)) (by omega) (by omega), led_give_yes (x := x) (n := ((n + m : Nat) : Int)) (by omega) (by omega), led_give_yes (by omega) (by simp only; omega)]
  cases x
  simp only [Led.mk.injEq, and_true, true_and]
  omega
theorem fin_may {r : DRes} {B w h : Int} : (Dec.fin r).may B w h := trivial
end Go.Proofs.Ytccldalagbfmhaa
namespace Go.Proofs.Ytccldalagbfmhaa
open Go.RowKit
set_option linter.unusedVariables false
set_option linter.unusedSimpArgs false

theorem be4_or {c0 c1 c2 c3 : Nat} (h0 : c0 < 256) (h1 : c1 < 256) (h2 : c2 < 256) (h3 : c3 < 256) : bits .or .i64 (bits .or .i64 (bits .or .i64 ((c0 : Int) * 16777216) ((c1 : Int) * 65536)) ((c2 : Int) * 256)) (c3 : Int) = ((((c0 * 256 + c1) * 256 + c2) * 256 + c3 : Nat) : Int) := by
  have e1 : bits .or .i64 ((c0 : Int) * 16777216) ((c1 : Int) * 65536) = ((65536 * (c0 * 256 + c1) : Nat) : Int) := by
    rw [show (c0 : Int) * 16777216 = ((2 ^ 24 * c0 : Nat) : Int) by omega, show (c1 : Int) * 65536 = ((c1 * 65536 : Nat) : Int) by omega, or64 _ _ (by omega) (by omega), ← Nat.two_pow_add_eq_or_of_lt (by omega)]
    omega
  rw [e1]
  have e2 : bits .or .i64 ((65536 * (c0 * 256 + c1) : Nat) : Int) ((c2 : Int) * 256) = ((256 * ((c0 * 256 + c1) * 256 + c2) : Nat) : Int) := by
    rw [show 65536 * (c0 * 256 + c1) = 2 ^ 16 * (c0 * 256 + c1) by omega, show (c2 : Int) * 256 = ((c2 * 256 : Nat) : Int) by omega, or64 _ _ (by omega) (by omega), ← Nat.two_pow_add_eq_or_of_lt (by omega)]
    omega
  rw [e2, show 256 * ((c0 * 256 + c1) * 256 + c2) = 2 ^ 8 * ((c0 * 256 + c1) * 256 + c2) by omega, or64 _ _ (by omega) (by omega), ← Nat.two_pow_add_eq_or_of_lt (by omega)]
  omega
/-- two boxes of results: five numbers (of some type), and a fault -/
structure PF (w0 w : World) (T : TypeId) (p f : Nat) : Prop where
  P : Blk w p T #[.int .i64 0, .int .i64 0, .int .i64 0, .int .i64 0, .int .i64 0]
  F : FB0 w f
  B : Below w0.heap.size w0 w
  np : w0.heap.size ≤ p
  nf : w0.heap.size ≤ f
section
variable {w0 w w' : World} {T : TypeId} {p f : Nat}
theorem PF.below (h : PF w0 w T p f) (b : Below w.heap.size w w') : PF w0 w' T p f := ⟨Blk.below h.P b (Blk.lt h.P), Blk.below h.F b (Blk.lt h.F), below_next h.B b, h.np, h.nf⟩
theorem PF.alloc (h : PF w0 w T p f) (o : Obj) : PF w0 (w.alloc o) T p f := h.below ((Below.refl _ _).alloc (Nat.le_refl _) _)
theorem PF.drew (h : PF w0 w T p f) : PF w0 w.drew T p f := ⟨Blk.drew h.P, Blk.drew h.F, h.B.drew, h.np, h.nf⟩
theorem PF.all (h : PF w0 w T p f) : w.cell? ⟨p, 0, none⟩ = some (.int .i64 0) ∧ w.cell? ⟨p, 1, none⟩ = some (.int .i64 0) ∧ w.cell? ⟨p, 2, none⟩ = some (.int .i64 0) ∧ w.cell? ⟨p, 3, none⟩ = some (.int .i64 0) ∧ w.cell? ⟨p, 4, none⟩ = some (.int .i64 0) ∧ w.frozen? ⟨p, 0, none⟩ = false ∧ w.frozen? ⟨p, 1, none⟩ = false ∧ w.frozen? ⟨p, 2, none⟩ = false ∧ w.frozen? ⟨p, 3, none⟩ = false ∧ w.frozen? ⟨p, 4, none⟩ = false ∧ p < w.heap.size ∧
    w.cell? ⟨f, 0, none⟩ = some (.int .i64 0) ∧ w.cell? ⟨f, 1, none⟩ = some (.int .i64 0) ∧ w.cell? ⟨f, 2, none⟩ = some (.int .i64 0) ∧ w.frozen? ⟨f, 0, none⟩ = false ∧ w.frozen? ⟨f, 1, none⟩ = false ∧ w.frozen? ⟨f, 2, none⟩ = false ∧ f < w.heap.size :=
  ⟨Blk.cell h.P 0, Blk.cell h.P 1, Blk.cell h.P 2, Blk.cell h.P 3, Blk.cell h.P 4, Blk.frozen h.P 0, Blk.frozen h.P 1, Blk.frozen h.P 2, Blk.frozen h.P 3, Blk.frozen h.P 4, Blk.lt h.P, Blk.cell h.F 0, Blk.cell h.F 1, Blk.cell h.F 2, Blk.frozen h.F 0, Blk.frozen h.F 1, Blk.frozen h.F 2, Blk.lt h.F⟩
theorem PF.store (h : PF w0 w T p f) {u0 u1 u2 u3 u4 a b c : Value} : Below w0.heap.size w0 (st3 (st5 w p u0 u1 u2 u3 u4) f a b c) := below_set3 (Below.st5 h.B h.np) h.nf
theorem PF.new (w : World) (T : TypeId) (h : T ≠ 37) : PF w ((w.alloc (.cells #[.int .i64 0, .int .i64 0, .int .i64 0, .int .i64 0, .int .i64 0] T)).alloc (.cells #[.int .i64 0, .int .i64 0, .int .i64 0] 37)) T w.heap.size (w.heap.size + 1) :=
  ⟨Blk.alloc (Blk.new _ _ _) _, Blk.new_at _ _ _ (by simp), ((Below.refl _ _).alloc (Nat.le_refl _) _).alloc (by simp) _, Nat.le_refl _, by omega⟩
end
end Go.Proofs.Ytccldalagbfmhaa
