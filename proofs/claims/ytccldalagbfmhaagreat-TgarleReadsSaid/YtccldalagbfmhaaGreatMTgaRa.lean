/- Plain: a file of TGA's by a narrow budget, in the order map, raster, pixels. -/
import Derived.Test.YtccldalagbfmhaaGreatMTgaF
import Derived.Test.YtccldalagbfmhaaGreatMTgaW
namespace Go.Proofs.YtccldalagbfmhaaGreat
set_option linter.unusedVariables false

/-- where nothing is refused the budget stays, and the steps are the cost -/
theorem Dec.run_room (d : Dec) : ∀ (x : Led) (e b : Nat), x.reason = 0 → d.bal e b → x.bytes = (b : Int) → d.may x.B x.W x.H → x.steps + d.cost ≤ x.S →
    (d.run x).1.W = x.W ∧ (d.run x).1.H = x.H ∧ (d.run x).1.B = x.B ∧ (d.run x).1.S = x.S ∧ (d.run x).1.steps = x.steps + d.cost := by
  induction d with
  | fin r => intro x e b hx _ _ _ _; exact ⟨rfl, rfl, rfl, rfl, by unfold Dec.run Dec.cost; simp⟩
  | work n fr a k ih =>
    intro x e b hx hb hy hm hc
    obtain ⟨rfl, ha, hk⟩ := hb
    obtain ⟨hn, hm⟩ := hm
    unfold Dec.cost at hc ⊢
    have h : (x.work n).2 = true := by
      unfold Led.work
      rw [if_neg (by simpa using hx), if_neg (by omega)]
    unfold Dec.run
    rw [if_pos h]
    obtain ⟨_, h2, h3, _, h4, h5, h6, h7, h8⟩ := led_work_yes h
    obtain ⟨i1, i2, i3, i4, i5⟩ := ih _ e _ h2 hk (h3.trans hy) (by rw [h6, h7, h8]; exact hm) (by rw [h4, h5]; omega)
    exact ⟨i1.trans h7, i2.trans h8, i3.trans h6, i4.trans h5, by rw [i5, h4]; omega⟩
  | sides W H a k ih =>
    intro x e b hx hb hy hm hc
    obtain ⟨rfl, ha, hk⟩ := hb
    obtain ⟨hw, hh, hm⟩ := hm
    unfold Dec.cost at hc ⊢
    have h : (x.sides W H).2 = true := by
      unfold Led.sides
      rw [if_neg (by simpa using hx), if_neg (by omega), if_neg (by omega)]
    unfold Dec.run
    rw [if_pos h, (led_sides_yes h).1]
    exact ih _ e _ hx hk hy hm hc
  | take n a k ih =>
    intro x e b hx hb hy hm hc
    obtain ⟨rfl, ha, hk⟩ := hb
    obtain ⟨hn, hm⟩ := hm
    unfold Dec.cost at hc ⊢
    have h : (x.take n).2 = true := by
      unfold Led.take
      rw [if_neg (by simpa using hx), if_neg (by omega)]
    unfold Dec.run
    rw [if_pos h]
    obtain ⟨_, h2, h3, h4, h5, h6, h7, h8⟩ := led_take_yes h
    obtain ⟨i1, i2, i3, i4, i5⟩ := ih _ e _ h2 hk (by rw [h3]; omega) (by rw [h6, h7, h8]; exact hm) (by rw [h4, h5]; exact hc)
    exact ⟨i1.trans h7, i2.trans h8, i3.trans h6, i4.trans h5, by rw [i5, h4]⟩
  | give n k ih =>
    intro x e b hx hb hy hm hc
    obtain ⟨hn, hk⟩ := hb
    unfold Dec.run
    unfold Dec.cost at hc ⊢
    rw [led_give_yes (by omega) (by omega)]
    exact ih _ e _ hx hk (by simp only; omega) hm hc
  | hold n fr a k ih =>
    intro x e b hx hb hy hm hc
    obtain ⟨rfl, ha, hk⟩ := hb
    obtain ⟨hn, hm⟩ := hm
    unfold Dec.cost at hc ⊢
    have h : (x.take n).2 = true := by
      unfold Led.take
      rw [if_neg (by simpa using hx), if_neg (by omega)]
    unfold Dec.run
    rw [if_pos h]
    obtain ⟨_, h2, h3, h4, h5, h6, h7, h8⟩ := led_take_yes h
    obtain ⟨i1, i2, i3, i4, i5⟩ := ih _ e _ h2 hk (by rw [h3]; omega) (by rw [h6, h7, h8]; exact hm) (by rw [h4, h5]; exact hc)
    exact ⟨i1.trans h7, i2.trans h8, i3.trans h6, i4.trans h5, by rw [i5, h4]⟩
theorem led_give_fix (x : Led) (n : Int) : (x.give n).1.W = x.W ∧ (x.give n).1.H = x.H ∧ (x.give n).1.B = x.B ∧ (x.give n).1.S = x.S ∧ (x.give n).1.steps = x.steps := by
  unfold Led.give
  split <;> exact ⟨rfl, rfl, rfl, rfl, rfl⟩
/-- a new raster, where there is room -/
theorem new_room {y : Led} {W H : Int} {n a : Nat} (hr : y.reason = 0) (hW : 1 ≤ W ∧ W ≤ y.W) (hH : 1 ≤ H ∧ H ≤ y.H) (hB : y.bytes + (n : Int) ≤ y.B) (k : Dec) : (y.take (n : Int)).2 = true ∧ (Dec.sides W H a (.take n a k)).run y = k.run (y.take (n : Int)).1 := by
  have h : (y.sides W H).2 = true := by
    unfold Led.sides
    rw [if_neg (by simpa using hr), if_neg (by omega), if_neg (by omega)]
  have h2 : (y.take (n : Int)).2 = true := by
    unfold Led.take
    rw [if_neg (by simpa using hr), if_neg (by omega)]
  refine ⟨h2, ?_⟩
  rw [Dec.run, if_pos h, (led_sides_yes h).1, Dec.run, if_pos h2]
def XL : Led := Led.new 60 60 20000 100000
theorem XL_ok : XL.Ok := Led.ok_new (by decide) (by decide) (by decide) (by decide)
/-- is it this place, and these colours? -/
noncomputable def tgaSel (a0 : Nat) (M0 : List Qc) (a : Nat) (M : List Qc) : DRes := @ite _ (a = a0 ∧ M = M0) (Classical.propDecidable _) (.img 0 0 []) (.bad 1 0)
noncomputable def tgaSelK (a0 : Nat) (M0 : List Qc) : Nat → List Qc → Nat → Nat → Dec := fun a M Z m => .give Z (.fin (tgaSel a0 M0 a M))
section
variable {s : ByteArray} {h : TgaHd} {a0 : Nat} {M0 : List Qc} {z : Nat}
theorem tgaSelK_bal {a Z m e : Nat} {M : List Qc} : (tgaSelK a0 M0 a M Z m).bal e Z := by
  refine ⟨Nat.le_refl _, ?_⟩
  rw [Nat.sub_self]
  unfold tgaSel
  split
  · exact ⟨rfl, rfl⟩
  · exact ⟨rfl, by decide, Nat.zero_le _⟩
theorem tgaSelK_cost {a Z m : Nat} {M : List Qc} : (tgaSelK a0 M0 a M Z m).cost ≤ 0 := by
  unfold tgaSelK Dec.cost Dec.cost; omega
theorem tgaSelK_may {a Z m : Nat} {M : List Qc} {B w g : Int} : (tgaSelK a0 M0 a M Z m).may B w g := trivial
theorem tgaFrom_bal (hle : 18 ≤ s.size) : (tgaFromK s h 0 (tgaSelK a0 M0)).bal s.size 0 := by
  refine ⟨rfl, hle, ?_⟩
  split
  · unfold tgaMapK
    split
    · exact tgaSelK_bal
    · split
      · refine ⟨rfl, by omega, ?_⟩
        split
        · exact tgaSelK_bal
        · exact give_bal (by decide) (by omega)
      · refine ⟨rfl, by omega, ?_⟩
        exact tgaPal_bal rfl _ _ _ (by omega) fun a' M' _ => tgaSelK_bal
  · exact give_bal (by decide) (by omega)
theorem tgaFrom_may {w g : Int} (hn : h.count ≤ 300) : (tgaFromK s h 0 (tgaSelK a0 M0)).may 20000 w g := by
  refine ⟨by decide, ?_⟩
  split
  · unfold tgaMapK
    split
    · exact tgaSelK_may
    · split
      · refine ⟨by decide, ?_⟩
        split
        · exact tgaSelK_may
        · exact trivial
      · exact ⟨by omega, tgaPal_may _ _ _ fun _ _ => tgaSelK_may⟩
  · exact trivial
theorem tgaFrom_cost : (tgaFromK s h 0 (tgaSelK a0 M0)).cost ≤ 2 + h.count := by
  unfold tgaFromK Dec.cost
  rw [tga_one]
  split
  · unfold tgaMapK
    split
    · have := tgaSelK_cost (a0 := a0) (M0 := M0) (a := 18 + h.name) (Z := 0) (m := 0) (M := []); omega
    · split
      · unfold Dec.cost
        rw [tga_one]
        split
        · have := tgaSelK_cost (a0 := a0) (M0 := M0) (a := 18 + h.name + tgaEntry h.entry * h.count) (Z := 0) (m := 0) (M := []); omega
        · unfold Dec.cost Dec.cost; omega
      · unfold Dec.cost
        have := tgaPal_cost (s := s) (h := h) (z := 0 + 4 * h.count) (c := 0) h.count (18 + h.name) [] (k := fun a M => tgaSelK a0 M0 a M (0 + 4 * h.count) (4 * h.count)) fun a' M' => tgaSelK_cost
        omega
  · unfold Dec.cost Dec.cost; omega
theorem tgaFrom_told (hm : tgaMapR s h = .inr (a0, M0)) : (tgaFromK s h 0 (tgaSelK a0 M0)).told = .img 0 0 [] := by
  have hs : ∀ Z m, (tgaSelK a0 M0 a0 M0 Z m).told = .img 0 0 [] := by
    intro Z m
    show tgaSel a0 M0 a0 M0 = _
    unfold tgaSel
    rw [if_pos ⟨rfl, rfl⟩]
  unfold tgaMapR at hm
  unfold tgaFromK tgaMapK
  rw [Dec.told]
  by_cases h1 : 18 + h.name ≤ s.size
  · rw [if_pos h1] at hm ⊢
    by_cases h2 : h.map = false
    · rw [if_pos h2] at hm ⊢
      cases hm
      exact hs _ _
    · rw [if_neg h2] at hm ⊢
      by_cases h3 : h.mapped
      · rw [if_neg (by simpa using h3), Dec.told, tgaPal_told _ _ _ h1]
        rw [if_pos h3] at hm
        by_cases h4 : 18 + h.name + tgaEntry h.entry * h.count ≤ s.size
        · rw [if_pos h4] at hm ⊢
          cases hm
          rw [List.nil_append]
          exact hs _ _
        · rw [if_neg h4] at hm; cases hm
      · rw [if_pos h3, Dec.told]
        rw [if_neg h3] at hm
        by_cases h4 : 18 + h.name + tgaEntry h.entry * h.count ≤ s.size
        · rw [if_pos h4] at hm ⊢
          cases hm
          exact hs _ _
        · rw [if_neg h4] at hm; cases hm
  · rw [if_neg h1] at hm; cases hm
end
theorem tgaSel_img {a0 a : Nat} {M0 M : List Qc} (h : tgaSel a0 M0 a M = .img 0 0 []) : a = a0 ∧ M = M0 := by
  unfold tgaSel at h
  split at h
  · assumption
  · cases h
/-- the same as tgaDec_enough, by the narrow budget -/
theorem tgaDec_enough20 {s : ByteArray} (hf : tgaFault s = none) (hw : (tgaHd s).W ≤ 60) (hh : (tgaHd s).H ≤ 60) (hn : (tgaHd s).count ≤ 300) : (tgaDec s).cost ≤ 90000 ∧ (tgaDec s).may 20000 60 60 := by
  have ok := tgaFault_none hf
  have h18 := tgaFault_size hf
  rw [tgaFault_of h18] at hf
  unfold tgaDec Dec.cost Dec.may
  rw [if_neg (by omega), hf]
  simp only
  generalize tgaHd s = g at ok hw hh hn ⊢
  have hp : g.W * g.H ≤ 3600 := Nat.mul_le_mul hw hh
  refine ⟨?_, by decide, ⟨by have := ok.w1; omega, by omega⟩, ⟨by have := ok.h1; omega, by omega⟩, by omega, by decide, ?_⟩
  · unfold tgaBody Dec.cost Dec.cost Dec.cost
    rw [tga_one]
    split
    · have := tgaMap_cost (s := s) (h := g) (z := 4 * (g.W * g.H)) (a := 18 + g.name); omega
    · unfold Dec.cost Dec.cost; omega
  · split
    · exact tgaMap_may (by omega)
    · exact trivial
/-- the head by the narrow budget -/
theorem tgaNarrow_head {s : ByteArray} {y' : Led} {kk aa : Nat} (hf : tgaFault s = none) (hw : (tgaHd s).W ≤ 60) (hh : (tgaHd s).H ≤ 60) (hn : (tgaHd s).count ≤ 300) (hr : (tgaDec s).run XL = (y', .bad kk aa)) (hno : kk ≠ 4 → tgaFault s = some (kk, aa)) : False := by
  obtain ⟨hc, hm⟩ := tgaDec_enough20 hf hw hh hn
  have h1 := Dec.run_enough (tgaDec s) XL s.size 0 rfl (tgaDec_bal s) rfl hm (by show (0 : Int) + _ ≤ 100000; omega)
  rw [hr] at h1
  have h4 : kk ≠ 4 := by
    rcases tgaTold_ways (s := s) with ⟨k, a, _, h4, ht⟩ | ⟨L, ht⟩
    · rw [ht] at h1
      have := h1.1
      injection this with e1 e2
      rw [e1]; exact h4
    · rw [ht] at h1
      cases h1.1
  rw [hf] at hno
  cases hno h4
structure Room (y : Led) (b t : Int) : Prop where
  r : y.reason = 0
  W : y.W = 60
  H : y.H = 60
  B : y.B = 20000
  S : y.S = 100000
  b : y.bytes = b
  t : y.steps ≤ t
theorem room_head {y : Led} (h : XL.work 1 = (y, true)) : Room y 0 1 := by
  have e : (XL.work 1).2 = true := by rw [h]
  obtain ⟨_, h2, h3, _, h4, h5, h6, h7, h8⟩ := led_work_yes e
  rw [h] at h2 h3 h4 h5 h6 h7 h8
  exact ⟨h2, h7.trans rfl, h8.trans rfl, h6.trans rfl, h5.trans rfl, h3.trans rfl, by rw [h4]; decide⟩
/-- the map by the narrow budget: no fault -/
theorem room_map_no {s : ByteArray} {h : TgaHd} {y y' : Led} {a0 kk aa : Nat} {M0 : List Qc} (R : Room y 0 1) (h18 : 18 ≤ s.size) (hn : h.count ≤ 300) (hm : tgaMapR s h = .inr (a0, M0))
    (hr : ∀ (z : Nat) k, (z : Int) ≤ y.bytes → (tgaFromK s h z k).run y = ((y'.give (z : Int)).1, .bad kk aa)) : False := by
  have e := hr 0 (tgaSelK a0 M0) (by rw [R.b]; exact Int.le_refl _)
  have c := tgaFrom_cost (s := s) (h := h) (a0 := a0) (M0 := M0)
  have h1 := Dec.run_enough _ y s.size 0 R.r (tgaFrom_bal (a0 := a0) (M0 := M0) (h := h) h18) R.b (by rw [R.B]; exact tgaFrom_may hn) (by have := R.t; have := R.S; omega)
  rw [e, tgaFrom_told hm] at h1
  cases h1.1
/-- the map by the narrow budget: what is read, and what is left -/
theorem room_map {s : ByteArray} {h : TgaHd} {y y' : Led} {a0 a m : Nat} {M0 M : List Qc} (R : Room y 0 1) (h18 : 18 ≤ s.size) (hn : h.count ≤ 300) (hm : tgaMapR s h = .inr (a0, M0)) (hy : y'.reason = 0) (hb : y'.bytes = y.bytes + (m : Int))
    (hr : ∀ (z : Nat) k, (tgaFromK s h z k).run y = (k a M (z + m) m).run y') : (a = a0 ∧ M = M0) ∧ Room y' (m : Int) 400 := by
  have e := hr 0 (tgaSelK a0 M0)
  have c := tgaFrom_cost (s := s) (h := h) (a0 := a0) (M0 := M0)
  have h1 := Dec.run_enough _ y s.size 0 R.r (tgaFrom_bal (a0 := a0) (M0 := M0) (h := h) h18) R.b (by rw [R.B]; exact tgaFrom_may hn) (by have := R.t; have := R.S; omega)
  have h2 := Dec.run_room _ y s.size 0 R.r (tgaFrom_bal (a0 := a0) (M0 := M0) (h := h) h18) R.b (by rw [R.B]; exact tgaFrom_may hn) (by have := R.t; have := R.S; omega)
  rw [e] at h1 h2
  rw [tgaFrom_told hm] at h1
  have e2 : (tgaSelK a0 M0 a M (0 + m) m).run y' = ((y'.give ((0 + m : Nat) : Int)).1, tgaSel a0 M0 a M) := rfl
  rw [e2] at h1 h2
  obtain ⟨g1, g2, g3, g4, g5⟩ := led_give_fix y' ((0 + m : Nat) : Int)
  obtain ⟨i1, i2, i3, i4, i5⟩ := h2
  simp only at i1 i2 i3 i4 i5
  rw [g1] at i1
  rw [g2] at i2
  rw [g3] at i3
  rw [g4] at i4
  rw [g5] at i5
  exact ⟨tgaSel_img h1.1, hy, i1.trans R.W, i2.trans R.H, i3.trans R.B, i4.trans R.S, by rw [hb, R.b]; omega, by rw [i5]; have := R.t; omega⟩
/-- a new raster by the narrow budget -/
theorem narrow_new {y y' : Led} {W H a m : Nat} (R : Room y (m : Int) 400) (hm : m ≤ 1200) (hW : 1 ≤ W ∧ W ≤ 60) (hH : 1 ≤ H ∧ H ≤ 60) (hr : ∀ k, (Dec.sides W H a (.take (4 * (W * H)) a k)).run y = k.run y') : Room y' ((4 * (W * H) + m : Nat) : Int) 400 := by
  have hp : W * H ≤ 3600 := Nat.mul_le_mul hW.2 hH.2
  have RW := R.W
  have RH := R.H
  have RBx := R.B
  have Rb := R.b
  obtain ⟨h1, h2⟩ := new_room (y := y) (W := (W : Int)) (H := (H : Int)) (n := 4 * (W * H)) (a := a) R.r (by omega) (by omega) (by omega) (.fin (.bad 0 0))
  have e := hr (.fin (.bad 0 0))
  rw [h2] at e
  have e' : (y.take ((4 * (W * H) : Nat) : Int)).1 = y' := congrArg Prod.fst e
  obtain ⟨_, i2, i3, i4, i5, i6, i7, i8⟩ := led_take_yes h1
  rw [e'] at i2 i3 i4 i5 i6 i7 i8
  exact ⟨i2, i7.trans RW, i8.trans RH, i6.trans RBx, i5.trans R.S, by rw [i3, Rb]; omega, by rw [i4]; exact R.t⟩
theorem narrow_newNo {y y' : Led} {W H a m : Nat} (R : Room y (m : Int) 400) (hm : m ≤ 1200) (hW : 1 ≤ W ∧ W ≤ 60) (hH : 1 ≤ H ∧ H ≤ 60) (hr : ∀ k, (Dec.sides W H a (.take (4 * (W * H)) a k)).run y = (y', .bad 4 a)) : False := by
  have hp : W * H ≤ 3600 := Nat.mul_le_mul hW.2 hH.2
  have RW := R.W
  have RH := R.H
  have RBx := R.B
  have Rb := R.b
  obtain ⟨h1, h2⟩ := new_room (y := y) (W := (W : Int)) (H := (H : Int)) (n := 4 * (W * H)) (a := a) R.r (by omega) (by omega) (by omega) (.fin (.bad 0 0))
  have e := hr (.fin (.bad 0 0))
  rw [h2] at e
  have e' : DRes.bad 0 0 = DRes.bad 4 a := congrArg Prod.snd e
  cases e'
/-- the pixels by the narrow budget -/
theorem room_pixels {s : ByteArray} {h : TgaHd} {M : List Qc} {y : Led} {a m : Nat} (R : Room y ((4 * (h.W * h.H) + m : Nat) : Int) 400) (ha : a ≤ s.size) (hw : h.W ≤ 60) (hh : h.H ≤ 60) : ((tgaPixels s h M (4 * (h.W * h.H) + m) m a).run y).2 = tgaPixR s h M a := by
  have hp : h.W * h.H ≤ 3600 := Nat.mul_le_mul hw hh
  have c := tgaPixels_cost (s := s) (h := h) (M := M) (z := 4 * (h.W * h.H) + m) (m := m) (a := a)
  have h1 := Dec.run_enough _ y s.size _ R.r (tgaPixels_bal (s := s) (h := h) (M := M) (z := 4 * (h.W * h.H) + m) (m := m) (a := a) rfl ha rfl) R.b tgaPixels_may (by have := R.t; have := R.S; omega)
  rw [h1.1, tgaPixels_told]
end Go.Proofs.YtccldalagbfmhaaGreat
