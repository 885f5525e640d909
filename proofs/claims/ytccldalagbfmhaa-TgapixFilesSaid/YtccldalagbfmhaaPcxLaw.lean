/- Plain: a file of PCX's, as a decoder takes it; what it tells in the end. -/
import Derived.Test.YtccldalagbfmhaaDecMore
namespace Go.Proofs.Ytccldalagbfmhaa
set_option linter.unusedVariables false

/-- two bytes, the lowest first -/
def le2 (s : ByteArray) (i : Nat) : Nat := bat s i + 256 * bat s (i + 1)
theorem le2_lt (s : ByteArray) (i : Nat) : le2 s i < 65536 := by
  have h1 := bat_lt s i
  have h2 := bat_lt s (i + 1)
  unfold le2
  omega
def PcxVer (v : Nat) : Prop := v ≤ 5 ∧ v ≠ 1
instance (v : Nat) : Decidable (PcxVer v) := by unfold PcxVer; infer_instance
def PcxPair (b p : Nat) : Prop := (b = 8 ∧ (p = 1 ∨ p = 3)) ∨ (b = 1 ∧ (p = 1 ∨ p = 4))
instance (b p : Nat) : Decidable (PcxPair b p) := by unfold PcxPair; infer_instance
/-- bytes of a plane's row -/
def pcxNeed (W : Int) (b : Nat) : Nat := if W < 0 then 0 else (W.toNat * b + 7) / 8
def pcxChks (b0 v b2 : Nat) (W H : Int) (d p l : Nat) : List (Bool × Nat × Nat) := [
  (!decide (b0 = 10), 2, 0), (!decide (PcxVer v), 3, 1), (!decide (b2 = 1), 3, 2), (decide (W < 1), 2, 8), (decide (16384 < W), 3, 8), (decide (H < 1), 2, 10), (decide (16384 < H), 3, 10),
  (!decide (PcxPair d p), 3, 65), (decide (l < pcxNeed W d ∨ pcxNeed W d + 3 < l), 2, 66)]
def pcxW (s : ByteArray) : Int := (le2 s 8 : Int) - (le2 s 4 : Int) + 1
def pcxH (s : ByteArray) : Int := (le2 s 10 : Int) - (le2 s 6 : Int) + 1
def pcxHead (s : ByteArray) : Option (Nat × Nat) := firstBad (pcxChks (bat s 0) (bat s 1) (bat s 2) (pcxW s) (pcxH s) (bat s 3) (bat s 65) (le2 s 66))
structure PcxHd where
  W : Nat
  H : Nat
  bits : Nat
  planes : Nat
  line : Nat
def pcxHd (s : ByteArray) : PcxHd := ⟨(pcxW s).toNat, (pcxH s).toNat, bat s 3, bat s 65, le2 s 66⟩
structure PcxHd.Ok (h : PcxHd) : Prop where
  w1 : 1 ≤ h.W
  w2 : h.W ≤ 16384
  h1 : 1 ≤ h.H
  h2 : h.H ≤ 16384
  pr : PcxPair h.bits h.planes
  l1 : (h.W * h.bits + 7) / 8 ≤ h.line
  l2 : h.line ≤ (h.W * h.bits + 7) / 8 + 3
theorem pcxHead_none {s : ByteArray} (h : pcxHead s = none) : bat s 0 = 10 ∧ PcxVer (bat s 1) ∧ bat s 2 = 1 ∧ (pcxHd s).Ok ∧ ((pcxHd s).W : Int) = pcxW s ∧ ((pcxHd s).H : Int) = pcxH s := by
  unfold pcxHead at h
  have a := firstBad_none h
  simp only [pcxChks, List.mem_cons, List.not_mem_nil, or_false, forall_eq_or_imp, forall_eq, decide_eq_false_iff_not, Bool.not_eq_false', decide_eq_true_eq] at a
  obtain ⟨a1, a2, a3, a4, a5, a6, a7, a8, a9⟩ := a
  have e1 : ((pcxHd s).W : Int) = pcxW s := by show ((pcxW s).toNat : Int) = _; omega
  have e2 : ((pcxHd s).H : Int) = pcxH s := by show ((pcxH s).toNat : Int) = _; omega
  have e3 : pcxNeed (pcxW s) (bat s 3) = ((pcxHd s).W * (pcxHd s).bits + 7) / 8 := by
    unfold pcxNeed
    rw [if_neg (by omega)]
    rfl
  rw [e3] at a9
  exact ⟨a1, a2, a3, ⟨by omega, by omega, by omega, by omega, a8, by show _ ≤ le2 s 66; omega, by show le2 s 66 ≤ _; omega⟩, e1, e2⟩
theorem pcxHead_some {s : ByteArray} {f : Nat × Nat} (h : pcxHead s = some f) : f.1 ≠ 0 ∧ f.1 ≠ 4 ∧ f.2 ≤ 66 := by
  unfold pcxHead firstBad at h
  rw [Option.map_eq_some_iff] at h
  obtain ⟨x, hx, rfl⟩ := h
  have hm := List.mem_of_find?_eq_some hx
  simp only [pcxChks, List.mem_cons, List.not_mem_nil, or_false] at hm
  rcases hm with rfl | rfl | rfl | rfl | rfl | rfl | rfl | rfl | rfl <;> exact ⟨by simp, by simp, by simp⟩
/-- is there a map at the end? -/
def PcxHd.Map (h : PcxHd) : Prop := h.bits = 8 ∧ h.planes = 1
instance (h : PcxHd) : Decidable h.Map := by unfold PcxHd.Map; infer_instance
def PcxHd.row (h : PcxHd) : Nat := h.planes * h.line
def pcxTo (s : ByteArray) (h : PcxHd) : Nat := if h.Map then s.size - 769 else s.size
def pcxBit (R : List Nat) (l p x : Nat) : Nat := R.getD (p * l + x / 8) 0 / 2 ^ (7 - x % 8) % 2
def pcxEnt (s : ByteArray) (a : Nat) : Qc := ⟨b8 s a, b8 s (a + 1), b8 s (a + 2), 255⟩
def pcxNum (R : List Nat) (l x : Nat) : Nat := pcxBit R l 0 x + 2 * pcxBit R l 1 x + 4 * pcxBit R l 2 x + 8 * pcxBit R l 3 x
def pcxGray (v : Nat) : Qc := ⟨UInt8.ofNat v, UInt8.ofNat v, UInt8.ofNat v, 255⟩
/-- a pixel's colour, of its row -/
def pcxQ (s : ByteArray) (h : PcxHd) (R : List Nat) (x : Nat) : Qc :=
  if h.planes = 3 then ⟨UInt8.ofNat (R.getD x 0), UInt8.ofNat (R.getD (h.line + x) 0), UInt8.ofNat (R.getD (2 * h.line + x) 0), 255⟩
  else if h.bits = 8 then pcxEnt s (s.size - 768 + 3 * R.getD x 0)
  else if h.planes = 1 then pcxGray (255 * pcxBit R h.line 0 x)
  else pcxEnt s (16 + 3 * pcxNum R h.line x)
def pcxShort (te z : Nat) : Dec := .give z (.fin (.bad 1 te))
/-- a row's packets: so many bytes at most, from a place on -/
def pcxUnp (s : ByteArray) (te z N : Nat) : Nat → Nat → List Nat → (Nat → List Nat → Dec) → Dec
  | 0, a, R, k => k a R
  | f + 1, a, R, k => if N ≤ R.length then k a R else .work 1 z a (if a + 1 ≤ te then
      (if 192 ≤ bat s a then .work 1 z (a + 1) (if a + 1 + 1 ≤ te then
          (if bat s a - 192 = 0 ∨ N - R.length < bat s a - 192 then .give z (.fin (.bad 2 a)) else pcxUnp s te z N f (a + 2) (R ++ List.replicate (bat s a - 192) (bat s (a + 1))) k)
        else pcxShort te z)
      else pcxUnp s te z N f (a + 1) (R ++ [bat s a]) k)
    else pcxShort te z)
/-- the same by itself: a fault, or the place and the bytes -/
def pcxGet (s : ByteArray) (te N : Nat) : Nat → Nat → List Nat → (Nat × Nat) ⊕ (Nat × List Nat)
  | 0, a, R => .inr (a, R)
  | f + 1, a, R => if N ≤ R.length then .inr (a, R) else if a + 1 ≤ te then
      (if 192 ≤ bat s a then (if a + 1 + 1 ≤ te then
          (if bat s a - 192 = 0 ∨ N - R.length < bat s a - 192 then .inl (2, a) else pcxGet s te N f (a + 2) (R ++ List.replicate (bat s a - 192) (bat s (a + 1))))
        else .inl (1, te))
      else pcxGet s te N f (a + 1) (R ++ [bat s a]))
    else .inl (1, te)
def pcxLine (s : ByteArray) (h : PcxHd) (z a : Nat) (R : List Nat) : Nat → Nat → List Qc → (List Qc → Dec) → Dec
  | 0, _, L, k => k L
  | n + 1, x, L, k => .work 1 z a (pcxLine s h z a R n (x + 1) (L ++ [pcxQ s h R x]) k)
def pcxRows (s : ByteArray) (h : PcxHd) (te z m : Nat) : Nat → Nat → List Qc → Dec
  | 0, _, L => .give m (.fin (.img h.W h.H (flat L)))
  | n + 1, a, L => pcxUnp s te z h.row h.row a [] fun a R => pcxLine s h z a R h.W 0 L fun L => pcxRows s h te z m n a L
/-- steps for a map's entries, from a place on -/
def pcxPal (z : Nat) (k : Dec) : Nat → Nat → Dec
  | 0, _ => k
  | n + 1, a => .work 1 z a (pcxPal z k n (a + 3))
def pcxPix (s : ByteArray) (h : PcxHd) (z : Nat) : Dec :=
  if h.Map then .hold 1024 z 128 (pcxPal (z + 1024) (.hold h.row (z + 1024) 128 (pcxRows s h (pcxTo s h) (z + 1024 + h.row) (1024 + h.row) h.H 128 [])) 256 (s.size - 768))
  else .hold h.row z 128 (pcxRows s h (pcxTo s h) (z + h.row) h.row h.H 128 [])
def pcxBody (s : ByteArray) (h : PcxHd) : Dec := .sides h.W h.H 128 (.take (4 * (h.W * h.H)) 128 (pcxPix s h (4 * (h.W * h.H))))
def pcxMark (s : ByteArray) (h : PcxHd) : Dec :=
  if h.Map then (if s.size < 897 then .fin (.bad 1 s.size) else .work 1 0 128 (if bat s (s.size - 769) = 12 then pcxBody s h else .fin (.bad 2 (s.size - 769))))
  else pcxBody s h
def pcxDec (s : ByteArray) : Dec :=
  .work 1 0 0 (if s.size < 128 then .fin (.bad 1 s.size) else match pcxHead s with
    | some f => .fin (.bad f.1 f.2)
    | none => pcxMark s (pcxHd s))

section
variable {s : ByteArray} {h : PcxHd} {te z N e : Nat}
set_option maxRecDepth 100000 in
theorem pcxUnp_bal (hto : te ≤ e) : ∀ f a R {k : Nat → List Nat → Dec}, a ≤ te → R.length ≤ N → N ≤ R.length + f → (∀ a' R', a' ≤ te → R'.length = N → (k a' R').bal e z) → (pcxUnp s te z N f a R k).bal e z := by
  intro f
  induction f with
  | zero => intro a R k ha hR hN hk; exact hk _ _ ha (by omega)
  | succ f ih =>
    intro a R k ha hR hN hk
    unfold pcxUnp
    split
    · exact hk _ _ ha (by omega)
    · refine ⟨rfl, by omega, ?_⟩
      split
      · split
        · refine ⟨rfl, by omega, ?_⟩
          split
          · by_cases h4 : bat s a - 192 = 0 ∨ N - R.length < bat s a - 192
            · rw [if_pos h4]; exact give_bal (by decide) (by omega)
            · rw [if_neg h4]
              refine ih _ _ (by omega) ?_ ?_ hk
              · rw [List.length_append, List.length_replicate]; omega
              · rw [List.length_append, List.length_replicate]; omega
          · exact give_bal (by decide) hto
        · refine ih _ _ (by omega) ?_ ?_ hk
          · rw [List.length_append, List.length_singleton]; omega
          · rw [List.length_append, List.length_singleton]; omega
      · exact give_bal (by decide) hto
theorem pcxLine_bal {a : Nat} {R : List Nat} (ha : a ≤ e) : ∀ n x L {k : List Qc → Dec}, (∀ L', L'.length = L.length + n → (k L').bal e z) → (pcxLine s h z a R n x L k).bal e z := by
  intro n
  induction n with
  | zero => intro x L k hk; exact hk _ rfl
  | succ n ih =>
    intro x L k hk
    refine ⟨rfl, ha, ih _ _ fun L' hL => hk _ ?_⟩
    rw [hL, List.length_append, List.length_singleton]
    omega
theorem pcxRows_bal {m : Nat} (hto : te ≤ e) (hz : z = 4 * (h.W * h.H) + m) : ∀ n a L, a ≤ te → n ≤ h.H → L.length = h.W * (h.H - n) → (pcxRows s h te z m n a L).bal e z := by
  intro n
  induction n with
  | zero =>
    intro a L ha hn hL
    refine ⟨by omega, by omega, ?_⟩
    rw [flat_len, hL, Nat.sub_zero]
  | succ n ih =>
    intro a L ha hn hL
    refine pcxUnp_bal hto _ _ _ ha (Nat.zero_le _) (by simp) fun a' R' h1 h2 => pcxLine_bal (by omega) _ _ _ fun L' hL' => ih _ _ h1 (by omega) ?_
    rw [hL', hL]
    have e : h.H - n = h.H - (n + 1) + 1 := by omega
    rw [e, Nat.mul_add]
    omega
theorem pcxPal_bal {k : Dec} (hk : k.bal e z) : ∀ n a, a + 3 * n ≤ e → (pcxPal z k n a).bal e z := by
  intro n
  induction n with
  | zero => intro a _; exact hk
  | succ n ih => intro a ha; exact ⟨rfl, by omega, ih _ (by omega)⟩
theorem pcxTo_le : pcxTo s h ≤ s.size := by
  unfold pcxTo
  split <;> omega
theorem pcxPix_bal (hs : 128 ≤ s.size) (hm : h.Map → 897 ≤ s.size) : (pcxPix s h (4 * (h.W * h.H))).bal s.size (4 * (h.W * h.H)) := by
  have ht : 128 ≤ pcxTo s h := by
    unfold pcxTo
    split
    · rename_i h1; have := hm h1; omega
    · exact hs
  unfold pcxPix
  split
  · rename_i h1
    have := hm h1
    refine ⟨rfl, hs, pcxPal_bal ?_ 256 _ (by omega)⟩
    exact ⟨rfl, hs, pcxRows_bal pcxTo_le (by omega) _ _ _ ht (Nat.le_refl _) (by simp)⟩
  · exact ⟨rfl, hs, pcxRows_bal pcxTo_le (by omega) _ _ _ ht (Nat.le_refl _) (by simp)⟩
theorem pcxBody_bal (hs : 128 ≤ s.size) (hm : h.Map → 897 ≤ s.size) : (pcxBody s h).bal s.size 0 :=
  ⟨rfl, hs, rfl, hs, by rw [Nat.zero_add]; exact pcxPix_bal hs hm⟩
theorem pcxDec_bal (s : ByteArray) : (pcxDec s).bal s.size 0 := by
  refine ⟨rfl, Nat.zero_le _, ?_⟩
  by_cases h : s.size < 128
  · rw [if_pos h]; exact ⟨rfl, by decide, Nat.le_refl _⟩
  · rw [if_neg h]
    have hk := @pcxHead_some s
    generalize pcxHead s = o at hk ⊢
    cases o with
    | some f => obtain ⟨h1, h2, h3⟩ := hk rfl; exact ⟨rfl, h2, by omega⟩
    | none =>
      simp only
      unfold pcxMark
      by_cases hm : (pcxHd s).Map
      · rw [if_pos hm]
        by_cases h9 : s.size < 897
        · rw [if_pos h9]; exact ⟨rfl, by decide, Nat.le_refl _⟩
        · rw [if_neg h9]
          refine ⟨rfl, by omega, ?_⟩
          split
          · exact pcxBody_bal (by omega) fun _ => by omega
          · exact ⟨rfl, by decide, by omega⟩
      · rw [if_neg hm]
        exact pcxBody_bal (by omega) fun h1 => absurd h1 hm
theorem pcx_one : (1 : Int).toNat = 1 := rfl
theorem pcxUnp_cost {c : Nat} : ∀ f a R {k : Nat → List Nat → Dec}, (∀ a' R', (k a' R').cost ≤ c) → (pcxUnp s te z N f a R k).cost ≤ 2 * f + c := by
  intro f
  induction f with
  | zero => intro a R k hk; have := hk a R; unfold pcxUnp; omega
  | succ f ih =>
    intro a R k hk
    unfold pcxUnp
    split
    · have := hk a R; omega
    · unfold Dec.cost
      rw [pcx_one]
      split
      · split
        · unfold Dec.cost
          rw [pcx_one]
          split
          · by_cases h4 : bat s a - 192 = 0 ∨ N - R.length < bat s a - 192
            · rw [if_pos h4]; unfold Dec.cost Dec.cost; omega
            · rw [if_neg h4]
              have := ih (a + 2) (R ++ List.replicate (bat s a - 192) (bat s (a + 1))) hk; omega
          · unfold pcxShort Dec.cost Dec.cost; omega
        · have := ih (a + 1) (R ++ [bat s a]) hk; omega
      · unfold pcxShort Dec.cost Dec.cost; omega
theorem pcxLine_cost {a c : Nat} {R : List Nat} : ∀ n x L {k : List Qc → Dec}, (∀ L', (k L').cost ≤ c) → (pcxLine s h z a R n x L k).cost ≤ n + c := by
  intro n
  induction n with
  | zero => intro x L k hk; have := hk L; unfold pcxLine; omega
  | succ n ih =>
    intro x L k hk
    have := ih (x + 1) (L ++ [pcxQ s h R x]) hk
    unfold pcxLine Dec.cost
    rw [pcx_one]
    omega
theorem pcxRows_cost {m : Nat} : ∀ n a L, (pcxRows s h te z m n a L).cost ≤ (2 * h.row + h.W) * n := by
  intro n
  induction n with
  | zero => intro a L; exact Nat.zero_le _
  | succ n ih =>
    intro a L
    have := pcxUnp_cost (s := s) (te := te) (z := z) (N := h.row) (c := h.W + (2 * h.row + h.W) * n) h.row a [] (k := fun a R => pcxLine s h z a R h.W 0 L fun L => pcxRows s h te z m n a L) fun a' R' => pcxLine_cost _ _ _ fun L' => ih _ _
    unfold pcxRows
    rw [Nat.mul_add, Nat.mul_one]
    omega
theorem pcxPal_cost {k : Dec} : ∀ n a, (pcxPal z k n a).cost = n + k.cost := by
  intro n
  induction n with
  | zero => intro a; show k.cost = 0 + k.cost; omega
  | succ n ih =>
    intro a
    show (1 : Int).toNat + (pcxPal z k n (a + 3)).cost = n + 1 + k.cost
    rw [ih, pcx_one]
    omega
set_option maxRecDepth 100000 in
theorem pcxUnp_may {B w g : Int} : ∀ f a R {k : Nat → List Nat → Dec}, (∀ a' R', (k a' R').may B w g) → (pcxUnp s te z N f a R k).may B w g := by
  intro f
  induction f with
  | zero => intro a R k hk; exact hk _ _
  | succ f ih =>
    intro a R k hk
    unfold pcxUnp
    split
    · exact hk _ _
    · refine ⟨by decide, ?_⟩
      split
      · split
        · refine ⟨by decide, ?_⟩
          split
          · by_cases h4 : bat s a - 192 = 0 ∨ N - R.length < bat s a - 192
            · rw [if_pos h4]; exact trivial
            · rw [if_neg h4]; exact ih _ _ hk
          · exact trivial
        · exact ih _ _ hk
      · exact trivial
theorem pcxLine_may {B w g : Int} {a : Nat} {R : List Nat} : ∀ n x L {k : List Qc → Dec}, (∀ L', (k L').may B w g) → (pcxLine s h z a R n x L k).may B w g := by
  intro n
  induction n with
  | zero => intro x L k hk; exact hk _
  | succ n ih => intro x L k hk; exact ⟨by decide, ih _ _ hk⟩
theorem pcxRows_may {B w g : Int} {m : Nat} : ∀ n a L, (pcxRows s h te z m n a L).may B w g := by
  intro n
  induction n with
  | zero => intro a L; exact trivial
  | succ n ih => intro a L; exact pcxUnp_may _ _ _ fun _ _ => pcxLine_may _ _ _ fun _ => ih _ _
theorem pcxPal_may {B w g : Int} {k : Dec} (hk : k.may B w g) : ∀ n a, (pcxPal z k n a).may B w g := by
  intro n
  induction n with
  | zero => intro a; exact hk
  | succ n ih => intro a; exact ⟨by decide, ih _⟩
end
/-- the sides that a head tells, or noughts -/
def pcxFault (s : ByteArray) : Option (Nat × Nat) :=
  if s.size < 128 then some (1, s.size) else match pcxHead s with
    | some f => some f
    | none => if (pcxHd s).Map then (if s.size < 897 then some (1, s.size) else if bat s (s.size - 769) = 12 then none else some (2, s.size - 769)) else none
def pcxSides (s : ByteArray) : Nat × Nat := match pcxFault s with | some _ => (0, 0) | none => ((pcxHd s).W, (pcxHd s).H)
theorem pcxRow_le {h : PcxHd} (ok : h.Ok) (hW : h.W ≤ 60) : h.row ≤ 189 := by
  have l1 := ok.l2
  have pr := ok.pr
  unfold PcxPair at pr
  unfold PcxHd.row
  rcases pr with ⟨hb, hp | hp⟩ | ⟨hb, hp | hp⟩ <;> rw [hb] at l1 <;> rw [hp] <;> omega
/-- what is enough for small images -/
theorem pcxDec_enough (s : ByteArray) (hw : (pcxSides s).1 ≤ 60) (hh : (pcxSides s).2 ≤ 60) : (pcxDec s).cost ≤ 100000 ∧ (pcxDec s).may 262144 16384 16384 := by
  unfold pcxSides pcxFault at hw hh
  unfold pcxDec Dec.cost Dec.may
  by_cases h : s.size < 128
  · rw [if_pos h]; exact ⟨by unfold Dec.cost; decide, by decide, trivial⟩
  · rw [if_neg h] at hw hh ⊢
    have hk := @pcxHead_none s
    generalize pcxHead s = o at hk hw hh ⊢
    cases o with
    | some f => exact ⟨by unfold Dec.cost; decide, by decide, trivial⟩
    | none =>
      obtain ⟨_, _, _, ok, _, _⟩ := hk rfl
      simp only at hw hh ⊢
      generalize pcxHd s = g at ok hw hh ⊢
      have body : g.W ≤ 60 → g.H ≤ 60 → (pcxBody s g).cost ≤ 90000 ∧ (pcxBody s g).may 262144 16384 16384 := by
        intro hW hH
        have hr := pcxRow_le ok hW
        have hp : g.W * g.H ≤ 3600 := Nat.mul_le_mul hW hH
        have hb : (2 * g.row + g.W) * g.H ≤ 438 * 60 := Nat.mul_le_mul (by omega) hH
        refine ⟨?_, ⟨by have := ok.w1; omega, by omega⟩, ⟨by have := ok.h1; omega, by omega⟩, by omega, ?_⟩
        · unfold pcxBody Dec.cost Dec.cost pcxPix
          split
          · unfold Dec.cost
            rw [pcxPal_cost]
            unfold Dec.cost
            have := pcxRows_cost (s := s) (h := g) (te := pcxTo s g) (z := 4 * (g.W * g.H) + 1024 + g.row) (m := 1024 + g.row) g.H 128 []
            omega
          · unfold Dec.cost
            have := pcxRows_cost (s := s) (h := g) (te := pcxTo s g) (z := 4 * (g.W * g.H) + g.row) (m := g.row) g.H 128 []
            omega
        · unfold pcxPix
          split
          · exact ⟨by omega, pcxPal_may (by exact ⟨by omega, pcxRows_may _ _ _⟩) _ _⟩
          · exact ⟨by omega, pcxRows_may _ _ _⟩
      unfold pcxMark
      by_cases hm : g.Map
      · rw [if_pos hm] at hw hh ⊢
        by_cases h9 : s.size < 897
        · rw [if_pos h9]; exact ⟨by unfold Dec.cost; decide, by decide, trivial⟩
        · rw [if_neg h9] at hw hh ⊢
          by_cases h12 : bat s (s.size - 769) = 12
          · rw [if_pos h12] at hw hh ⊢
            obtain ⟨b1, b2⟩ := body hw hh
            refine ⟨?_, by decide, by decide, b2⟩
            unfold Dec.cost
            rw [pcx_one]
            omega
          · rw [if_neg h12]
            exact ⟨by unfold Dec.cost Dec.cost; decide, by decide, by decide, trivial⟩
      · rw [if_neg hm] at hw hh ⊢
        obtain ⟨b1, b2⟩ := body hw hh
        exact ⟨by rw [pcx_one]; omega, by decide, b2⟩
section
variable {s : ByteArray} {h : PcxHd} {te z N : Nat}
theorem pcxUnp_told : ∀ f a R {k : Nat → List Nat → Dec}, (pcxUnp s te z N f a R k).told = match pcxGet s te N f a R with | .inl g => .bad g.1 g.2 | .inr (a', R') => (k a' R').told := by
  intro f
  induction f with
  | zero => intro a R k; rfl
  | succ f ih =>
    intro a R k
    unfold pcxUnp pcxGet
    by_cases h0 : N ≤ R.length
    · rw [if_pos h0, if_pos h0]
    · rw [if_neg h0, if_neg h0, Dec.told]
      by_cases h1 : a + 1 ≤ te
      · rw [if_pos h1, if_pos h1]
        by_cases h2 : 192 ≤ bat s a
        · rw [if_pos h2, if_pos h2, Dec.told]
          by_cases h3 : a + 1 + 1 ≤ te
          · rw [if_pos h3, if_pos h3]
            by_cases h4 : bat s a - 192 = 0 ∨ N - R.length < bat s a - 192
            · rw [if_pos h4, if_pos h4]; rfl
            · rw [if_neg h4, if_neg h4]; exact ih _ _
          · rw [if_neg h3, if_neg h3]; rfl
        · rw [if_neg h2, if_neg h2]; exact ih _ _
      · rw [if_neg h1, if_neg h1]; rfl
/-- a row's colours behind others, from a column on -/
def pcxCols (s : ByteArray) (h : PcxHd) (R : List Nat) : Nat → Nat → List Qc → List Qc
  | 0, _, L => L
  | n + 1, x, L => pcxCols s h R n (x + 1) (L ++ [pcxQ s h R x])
theorem pcxLine_told {a : Nat} {R : List Nat} : ∀ n x L {k : List Qc → Dec}, (pcxLine s h z a R n x L k).told = (k (pcxCols s h R n x L)).told := by
  intro n
  induction n with
  | zero => intro x L k; rfl
  | succ n ih => intro x L k; exact ih _ _
/-- what the document tells of the rows -/
def pcxRef (s : ByteArray) (h : PcxHd) (te : Nat) : Nat → Nat → List Qc → DRes
  | 0, _, L => .img h.W h.H (flat L)
  | n + 1, a, L => match pcxGet s te h.row h.row a [] with
    | .inl g => .bad g.1 g.2
    | .inr (a', R) => pcxRef s h te n a' (pcxCols s h R h.W 0 L)
theorem pcxRows_told {m : Nat} : ∀ n a L, (pcxRows s h te z m n a L).told = pcxRef s h te n a L := by
  intro n
  induction n with
  | zero => intro a L; rfl
  | succ n ih =>
    intro a L
    unfold pcxRows pcxRef
    rw [pcxUnp_told]
    cases pcxGet s te h.row h.row a [] with
    | inl g => rfl
    | inr p => obtain ⟨a', R⟩ := p; simp only; rw [pcxLine_told]; exact ih _ _
theorem pcxPal_told {k : Dec} : ∀ n a, (pcxPal z k n a).told = k.told := by
  intro n
  induction n with
  | zero => intro a; rfl
  | succ n ih => intro a; exact ih _
end
theorem pcxDec_told (s : ByteArray) : (pcxDec s).told = match pcxFault s with | some f => .bad f.1 f.2 | none => pcxRef s (pcxHd s) (pcxTo s (pcxHd s)) (pcxHd s).H 128 [] := by
  unfold pcxDec pcxFault
  rw [Dec.told]
  by_cases h : s.size < 128
  · rw [if_pos h, if_pos h]; rfl
  · rw [if_neg h, if_neg h]
    cases pcxHead s with
    | some f => rfl
    | none =>
      simp only
      generalize pcxHd s = g
      have body : (pcxBody s g).told = pcxRef s g (pcxTo s g) g.H 128 [] := by
        unfold pcxBody
        rw [Dec.told, Dec.told]
        unfold pcxPix
        split
        · rw [Dec.told, pcxPal_told, Dec.told]; exact pcxRows_told _ _ _
        · rw [Dec.told]; exact pcxRows_told _ _ _
      unfold pcxMark
      by_cases hm : g.Map
      · rw [if_pos hm, if_pos hm]
        by_cases h9 : s.size < 897
        · rw [if_pos h9, if_pos h9]; rfl
        · rw [if_neg h9, if_neg h9, Dec.told]
          by_cases h12 : bat s (s.size - 769) = 12
          · rw [if_pos h12, if_pos h12]; exact body
          · rw [if_neg h12, if_neg h12]; rfl
      · rw [if_neg hm, if_neg hm]; exact body
end Go.Proofs.Ytccldalagbfmhaa
