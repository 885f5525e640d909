/- Plain: a file of TGA's, its head: what is wrong first, what it tells. -/
import Derived.Test.YtccldalagbfmhaaDecMore
import Derived.Test.YtccldalagbfmhaaPcxLaw
namespace Go.Proofs.Ytccldalagbfmhaa
set_option linter.unusedVariables false

def TgaPacked (k : Nat) : Prop := 9 ≤ k ∧ k ≤ 11
instance (k : Nat) : Decidable (TgaPacked k) := by unfold TgaPacked; infer_instance
def tgaPlain (k : Nat) : Nat := if TgaPacked k then k - 8 else k
def TgaCol (n : Nat) : Prop := n = 15 ∨ n = 16 ∨ n = 24 ∨ n = 32
instance (n : Nat) : Decidable (TgaCol n) := by unfold TgaCol; infer_instance
def TgaKnown (k : Nat) : Prop := (1 ≤ k ∧ k ≤ 3) ∨ TgaPacked k
instance (k : Nat) : Decidable (TgaKnown k) := by unfold TgaKnown; infer_instance
def TgaDepth (k b : Nat) : Prop := if tgaPlain k = 2 then TgaCol b else b = 8
instance (k b : Nat) : Decidable (TgaDepth k b) := by unfold TgaDepth; infer_instance
def TgaAlpha (b n : Nat) : Prop := n = 0 ∨ (b = 32 ∧ n = 8) ∨ (b = 16 ∧ n = 1)
instance (b n : Nat) : Decidable (TgaAlpha b n) := by unfold TgaAlpha; infer_instance
def tgaChks (m t e c W H d f : Nat) : List (Bool × Nat × Nat) := [
  (decide (1 < m), 2, 1), (!decide (TgaKnown t), 3, 2), (decide (tgaPlain t = 1 ∧ m ≠ 1), 2, 1), (decide (m = 1 ∧ ¬ TgaCol e), 3, 7), (decide (m = 1 ∧ c = 0), 2, 5),
  (decide (W = 0), 2, 12), (decide (16384 < W), 3, 12), (decide (H = 0), 2, 14), (decide (16384 < H), 3, 14), (!decide (TgaDepth t d), 3, 16), (decide (64 ≤ f), 3, 17), (!decide (TgaAlpha d (f % 16)), 2, 17)]
def tgaHead (s : ByteArray) : Option (Nat × Nat) := firstBad (tgaChks (bat s 1) (bat s 2) (bat s 7) (le2 s 5) (le2 s 12) (le2 s 14) (bat s 16) (bat s 17))
structure TgaHd where
  name : Nat
  map : Bool
  typ : Nat
  first : Nat
  count : Nat
  entry : Nat
  W : Nat
  H : Nat
  depth : Nat
  alpha : Nat
  left : Bool
  top : Bool
def tgaHd (s : ByteArray) : TgaHd :=
  ⟨bat s 0, decide (bat s 1 = 1), bat s 2, if bat s 1 = 1 then le2 s 3 else 0, if bat s 1 = 1 then le2 s 5 else 0, if bat s 1 = 1 then bat s 7 else 0, le2 s 12, le2 s 14, bat s 16, bat s 17 % 16, decide (bat s 17 / 16 % 2 = 1), decide (bat s 17 / 32 % 2 = 1)⟩
structure TgaHd.Ok (h : TgaHd) : Prop where
  n1 : h.name ≤ 255
  t1 : TgaKnown h.typ
  m1 : tgaPlain h.typ = 1 → h.map = true
  e1 : h.map = true → TgaCol h.entry
  c1 : h.map = true → 1 ≤ h.count
  c2 : h.count ≤ 65535
  f1 : h.first ≤ 65535
  w1 : 1 ≤ h.W
  w2 : h.W ≤ 16384
  h1 : 1 ≤ h.H
  h2 : h.H ≤ 16384
  d1 : TgaDepth h.typ h.depth
  a1 : TgaAlpha h.depth h.alpha
theorem tgaHead_none {s : ByteArray} (h : tgaHead s = none) : (tgaHd s).Ok ∧ bat s 1 ≤ 1 ∧ bat s 17 < 64 := by
  unfold tgaHead at h
  have a := firstBad_none h
  simp only [tgaChks, List.mem_cons, List.not_mem_nil, or_false, forall_eq_or_imp, forall_eq, decide_eq_false_iff_not, Bool.not_eq_false', decide_eq_true_eq] at a
  obtain ⟨a1, a2, a3, a4, a5, a6, a7, a8, a9, a10, a11, a12⟩ := a
  have l3 := le2_lt s 3
  have l5 := le2_lt s 5
  have b0 := bat_lt s 0
  refine ⟨⟨?_, a2, ?_, ?_, ?_, ?_, ?_, ?_, ?_, ?_, ?_, a10, a12⟩, by omega, by omega⟩
  · show bat s 0 ≤ 255; omega
  · intro hp
    show decide (bat s 1 = 1) = true
    rw [decide_eq_true_eq]
    exact Classical.byContradiction fun hn => a3 ⟨hp, hn⟩
  · intro hm
    have hm' : bat s 1 = 1 := by simpa [tgaHd] using hm
    show TgaCol (if bat s 1 = 1 then bat s 7 else 0)
    rw [if_pos hm']
    exact Classical.byContradiction fun hn => a4 ⟨hm', hn⟩
  · intro hm
    have hm' : bat s 1 = 1 := by simpa [tgaHd] using hm
    show 1 ≤ (if bat s 1 = 1 then le2 s 5 else 0)
    rw [if_pos hm']
    omega
  · show (if bat s 1 = 1 then le2 s 5 else 0) ≤ 65535; split <;> omega
  · show (if bat s 1 = 1 then le2 s 3 else 0) ≤ 65535; split <;> omega
  · show 1 ≤ le2 s 12; omega
  · show le2 s 12 ≤ 16384; omega
  · show 1 ≤ le2 s 14; omega
  · show le2 s 14 ≤ 16384; omega
theorem tgaHead_some {s : ByteArray} {f : Nat × Nat} (h : tgaHead s = some f) : f.1 ≠ 0 ∧ f.1 ≠ 4 ∧ f.2 ≤ 17 := by
  unfold tgaHead firstBad at h
  rw [Option.map_eq_some_iff] at h
  obtain ⟨x, hx, rfl⟩ := h
  have hm := List.mem_of_find?_eq_some hx
  simp only [tgaChks, List.mem_cons, List.not_mem_nil, or_false] at hm
  rcases hm with rfl | rfl | rfl | rfl | rfl | rfl | rfl | rfl | rfl | rfl | rfl | rfl <;> exact ⟨by simp, by simp, by simp⟩
def tgaFault (s : ByteArray) : Option (Nat × Nat) := if s.size < 18 then some (1, s.size) else tgaHead s
/-- bytes of a pixel; of a map's entry; the kind of its entries -/
def TgaHd.size (h : TgaHd) : Nat := (h.depth + 7) / 8
def tgaKind (e : Nat) : Nat := if e = 24 then 3 else if e = 32 then 5 else 2
def tgaEntry (e : Nat) : Nat := if e = 24 then 3 else if e = 32 then 4 else 2
def TgaHd.mapped (h : TgaHd) : Prop := tgaPlain h.typ = 1
instance (h : TgaHd) : Decidable h.mapped := by unfold TgaHd.mapped; infer_instance
/-- where a pixel stands -/
def TgaHd.place (h : TgaHd) (k : Nat) : Nat := (if h.top then k / h.W else h.H - 1 - k / h.W) * h.W + (if h.left then h.W - 1 - k % h.W else k % h.W)
theorem TgaHd.place_lt {h : TgaHd} (w1 : 1 ≤ h.W) {k : Nat} (hk : k < h.W * h.H) : h.place k < h.W * h.H := by
  have q : k / h.W < h.H := Nat.div_lt_of_lt_mul hk
  have r : k % h.W < h.W := Nat.mod_lt _ (by omega)
  unfold TgaHd.place
  generalize k / h.W = y at q ⊢
  generalize k % h.W = x at r ⊢
  have hy : (if h.top then y else h.H - 1 - y) + 1 ≤ h.H := by split <;> omega
  have hx : (if h.left then h.W - 1 - x else x) < h.W := by split <;> omega
  have := Nat.mul_le_mul_right h.W hy
  rw [Nat.add_mul, Nat.one_mul, Nat.mul_comm h.H] at this
  omega
end Go.Proofs.Ytccldalagbfmhaa
