/- Plain: a map and pixels of TGA's by a budget without sides. -/
import Derived.Test.YtccldalagbfmhaaTgaF
import Derived.Test.YtccldalagbfmhaaTgaTold
namespace Go.Proofs.Ytccldalagbfmhaa
set_option linter.unusedVariables false

/-- where nothing is refused the budget stays, and the steps are the cost -/
theorem Dec.run_room (d : Dec) : ∀ (x : Led) (e b : Nat), x.reason = 0 → d.bal e b → x.bytes = (b : Int) → d.may x.B x.W x.H → x.steps + d.cost ≤ x.S →
    (d.run x).1.W = x.W ∧ (d.run x).1.H = x.H ∧ (d.run x).1.B = x.B ∧ (d.run x).1.S = x.S ∧ (d.run x).1.steps = x.steps + d.cost := by
  induction d with
  | fin r => intro x e b hx _ _ _ _; exact ⟨rfl, rfl, rfl, rfl, by unfold Dec.run Dec.cost; simp⟩
  | work n fr a k ih =>
    intro x e b hx hb hy hm hc
    obtain ⟨rfl, ha, hk⟩ := hb
    obtain ⟨hn, hm⟩ := hm
    unfold Dec.cost at hc ⊢
    have h : (x.work n).2 = true := by
      unfold Led.work
      rw [if_neg (by simpa using hx), if_neg (by omega)]
    unfold Dec.run
    rw [if_pos h]
    obtain ⟨_, h2, h3, _, h4, h5, h6, h7, h8⟩ := led_work_yes h
    obtain ⟨i1, i2, i3, i4, i5⟩ := ih _ e _ h2 hk (h3.trans hy) (by rw [h6, h7, h8]; exact hm) (by rw [h4, h5]; omega)
    exact ⟨i1.trans h7, i2.trans h8, i3.trans h6, i4.trans h5, by rw [i5, h4]; omega⟩
  | sides W H a k ih =>
    intro x e b hx hb hy hm hc
    obtain ⟨rfl, ha, hk⟩ := hb
    obtain ⟨hw, hh, hm⟩ := hm
    unfold Dec.cost at hc ⊢
    have h : (x.sides W H).2 = true := by
      unfold Led.sides
      rw [if_neg (by simpa using hx), if_neg (by omega), if_neg (by omega)]
    unfold Dec.run
    rw [if_pos h, (led_sides_yes h).1]
    exact ih _ e _ hx hk hy hm hc
  | take n a k ih =>
    intro x e b hx hb hy hm hc
    obtain ⟨rfl, ha, hk⟩ := hb
    obtain ⟨hn, hm⟩ := hm
    unfold Dec.cost at hc ⊢
    have h : (x.take n).2 = true := by
      unfold Led.take
      rw [if_neg (by simpa using hx), if_neg (by omega)]
    unfold Dec.run
    rw [if_pos h]
    obtain ⟨_, h2, h3, h4, h5, h6, h7, h8⟩ := led_take_yes h
    obtain ⟨i1, i2, i3, i4, i5⟩ := ih _ e _ h2 hk (by rw [h3]; omega) (by rw [h6, h7, h8]; exact hm) (by rw [h4, h5]; exact hc)
    exact ⟨i1.trans h7, i2.trans h8, i3.trans h6, i4.trans h5, by rw [i5, h4]⟩
  | give n k ih =>
    intro x e b hx hb hy hm hc
    obtain ⟨hn, hk⟩ := hb
    unfold Dec.run
    unfold Dec.cost at hc ⊢
    rw [led_give_yes (by omega) (by omega)]
    exact ih _ e _ hx hk (by simp only; omega) hm hc
  | hold n fr a k ih =>
    intro x e b hx hb hy hm hc
    obtain ⟨rfl, ha, hk⟩ := hb
    obtain ⟨hn, hm⟩ := hm
    unfold Dec.cost at hc ⊢
    have h : (x.take n).2 = true := by
      unfold Led.take
      rw [if_neg (by simpa using hx), if_neg (by omega)]
    unfold Dec.run
    rw [if_pos h]
    obtain ⟨_, h2, h3, h4, h5, h6, h7, h8⟩ := led_take_yes h
    obtain ⟨i1, i2, i3, i4, i5⟩ := ih _ e _ h2 hk (by rw [h3]; omega) (by rw [h6, h7, h8]; exact hm) (by rw [h4, h5]; exact hc)
    exact ⟨i1.trans h7, i2.trans h8, i3.trans h6, i4.trans h5, by rw [i5, h4]⟩
theorem led_give_fix (x : Led) (n : Int) : (x.give n).1.W = x.W ∧ (x.give n).1.H = x.H ∧ (x.give n).1.B = x.B ∧ (x.give n).1.S = x.S ∧ (x.give n).1.steps = x.steps := by
  unfold Led.give
  split <;> exact ⟨rfl, rfl, rfl, rfl, rfl⟩
/-- is it this place, and these colours? -/
noncomputable def tgaSel (a0 : Nat) (M0 : List Qc) (a : Nat) (M : List Qc) : DRes := @ite _ (a = a0 ∧ M = M0) (Classical.propDecidable _) (.img 0 0 []) (.bad 1 0)
noncomputable def tgaSelK (a0 : Nat) (M0 : List Qc) : Nat → List Qc → Nat → Nat → Dec := fun a M Z m => .give Z (.fin (tgaSel a0 M0 a M))
section
variable {s : ByteArray} {h : TgaHd} {a0 : Nat} {M0 : List Qc} {z : Nat}
theorem tgaSelK_bal {a Z m e : Nat} {M : List Qc} : (tgaSelK a0 M0 a M Z m).bal e Z := by
  refine ⟨Nat.le_refl _, ?_⟩
  rw [Nat.sub_self]
  unfold tgaSel
  split
  · exact ⟨rfl, rfl⟩
  · exact ⟨rfl, by decide, Nat.zero_le _⟩
theorem tgaSelK_cost {a Z m : Nat} {M : List Qc} : (tgaSelK a0 M0 a M Z m).cost ≤ 0 := by
  unfold tgaSelK Dec.cost Dec.cost; omega
theorem tgaSelK_may {a Z m : Nat} {M : List Qc} {B w g : Int} : (tgaSelK a0 M0 a M Z m).may B w g := trivial
theorem tgaFrom_bal (hle : 18 ≤ s.size) : (tgaFromK s h 0 (tgaSelK a0 M0)).bal s.size 0 := by
  refine ⟨rfl, hle, ?_⟩
  split
  · unfold tgaMapK
    split
    · exact tgaSelK_bal
    · split
      · refine ⟨rfl, by omega, ?_⟩
        split
        · exact tgaSelK_bal
        · exact give_bal (by decide) (by omega)
      · refine ⟨rfl, by omega, ?_⟩
        exact tgaPal_bal rfl _ _ _ (by omega) fun a' M' _ => tgaSelK_bal
  · exact give_bal (by decide) (by omega)
theorem tgaFrom_may {w g : Int} (hn : h.count ≤ 300) : (tgaFromK s h 0 (tgaSelK a0 M0)).may 2000 w g := by
  refine ⟨by decide, ?_⟩
  split
  · unfold tgaMapK
    split
    · exact tgaSelK_may
    · split
      · refine ⟨by decide, ?_⟩
        split
        · exact tgaSelK_may
        · exact trivial
      · exact ⟨by omega, tgaPal_may _ _ _ fun _ _ => tgaSelK_may⟩
  · exact trivial
theorem tgaFrom_cost : (tgaFromK s h 0 (tgaSelK a0 M0)).cost ≤ 2 + h.count := by
  unfold tgaFromK Dec.cost
  rw [tga_one]
  split
  · unfold tgaMapK
    split
    · have := tgaSelK_cost (a0 := a0) (M0 := M0) (a := 18 + h.name) (Z := 0) (m := 0) (M := []); omega
    · split
      · unfold Dec.cost
        rw [tga_one]
        split
        · have := tgaSelK_cost (a0 := a0) (M0 := M0) (a := 18 + h.name + tgaEntry h.entry * h.count) (Z := 0) (m := 0) (M := []); omega
        · unfold Dec.cost Dec.cost; omega
      · unfold Dec.cost
        have := tgaPal_cost (s := s) (h := h) (z := 0 + 4 * h.count) (c := 0) h.count (18 + h.name) [] (k := fun a M => tgaSelK a0 M0 a M (0 + 4 * h.count) (4 * h.count)) fun a' M' => tgaSelK_cost
        omega
  · unfold Dec.cost Dec.cost; omega
theorem tgaFrom_told (hm : tgaMapR s h = .inr (a0, M0)) : (tgaFromK s h 0 (tgaSelK a0 M0)).told = .img 0 0 [] := by
  have hs : ∀ Z m, (tgaSelK a0 M0 a0 M0 Z m).told = .img 0 0 [] := by
    intro Z m
    show tgaSel a0 M0 a0 M0 = _
    unfold tgaSel
    rw [if_pos ⟨rfl, rfl⟩]
  unfold tgaMapR at hm
  unfold tgaFromK tgaMapK
  rw [Dec.told]
  by_cases h1 : 18 + h.name ≤ s.size
  · rw [if_pos h1] at hm ⊢
    by_cases h2 : h.map = false
    · rw [if_pos h2] at hm ⊢
      cases hm
      exact hs _ _
    · rw [if_neg h2] at hm ⊢
      by_cases h3 : h.mapped
      · rw [if_neg (by simpa using h3), Dec.told, tgaPal_told _ _ _ h1]
        rw [if_pos h3] at hm
        by_cases h4 : 18 + h.name + tgaEntry h.entry * h.count ≤ s.size
        · rw [if_pos h4] at hm ⊢
          cases hm
          rw [List.nil_append]
          exact hs _ _
        · rw [if_neg h4] at hm; cases hm
      · rw [if_pos h3, Dec.told]
        rw [if_neg h3] at hm
        by_cases h4 : 18 + h.name + tgaEntry h.entry * h.count ≤ s.size
        · rw [if_pos h4] at hm ⊢
          cases hm
          exact hs _ _
        · rw [if_neg h4] at hm; cases hm
  · rw [if_neg h1] at hm; cases hm
end
theorem tgaFrom_toldBad {s : ByteArray} {h : TgaHd} {a0 : Nat} {M0 : List Qc} {g : Nat × Nat} (hm : tgaMapR s h = .inl g) : (tgaFromK s h 0 (tgaSelK a0 M0)).told = .bad g.1 g.2 := by
  unfold tgaMapR at hm
  unfold tgaFromK tgaMapK
  rw [Dec.told]
  by_cases h1 : 18 + h.name ≤ s.size
  · rw [if_pos h1] at hm ⊢
    by_cases h2 : h.map = false
    · rw [if_pos h2] at hm; cases hm
    · rw [if_neg h2] at hm ⊢
      by_cases h3 : h.mapped
      · rw [if_neg (by simpa using h3), Dec.told, tgaPal_told _ _ _ h1]
        by_cases h4 : 18 + h.name + tgaEntry h.entry * h.count ≤ s.size
        · rw [if_pos h4] at hm; cases hm
        · rw [if_neg h4] at hm ⊢; cases hm; rfl
      · rw [if_pos h3, Dec.told]
        by_cases h4 : 18 + h.name + tgaEntry h.entry * h.count ≤ s.size
        · rw [if_pos h4] at hm; cases hm
        · rw [if_neg h4] at hm ⊢; cases hm; rfl
  · rw [if_neg h1] at hm ⊢; cases hm; rfl
theorem tgaSel_img {a0 a : Nat} {M0 M : List Qc} (h : tgaSel a0 M0 a M = .img 0 0 []) : a = a0 ∧ M = M0 := by
  unfold tgaSel at h
  split at h
  · assumption
  · cases h
def XFi : Led := Led.new 0 0 2000 10000
theorem XFi_ok : XFi.Ok := Led.ok_new (by decide) (by decide) (by decide) (by decide)
structure Room (y : Led) (b t : Int) : Prop where
  r : y.reason = 0
  B : y.B = 2000
  S : y.S = 10000
  b : y.bytes = b
  t : y.steps ≤ t
theorem work_is {y : Led} {t b : Int} (R : Room y b t) (ht : t ≤ 9000) : ∃ y', y.work 1 = (y', true) ∧ Room y' b (t + 1) := by
  have RS := R.S
  have Rt := R.t
  have h : (y.work 1).2 = true := by
    unfold Led.work
    rw [if_neg (by rw [R.r]; simp), if_neg (by omega)]
  obtain ⟨_, h2, h3, _, h4, h5, h6, h7, h8⟩ := led_work_yes h
  exact ⟨(y.work 1).1, Prod.ext rfl h, h2, h6.trans R.B, h5.trans R.S, h3.trans R.b, by rw [h4]; omega⟩
theorem room_start : Room XFi 0 0 := ⟨rfl, rfl, rfl, rfl, by decide⟩
theorem room_work {y y' : Led} {t b : Int} (R : Room y b t) (ht : t ≤ 9000) (h : y.work 1 = (y', true)) : Room y' b (t + 1) := by
  obtain ⟨z, h1, h2⟩ := work_is R ht
  rw [h] at h1
  injection h1 with e1 e2
  rw [e1]; exact h2
/-- the map: a fault is the document's -/
theorem room_map_bad {s : ByteArray} {h : TgaHd} {y y' : Led} {kk aa : Nat} {t : Int} (R : Room y 0 t) (ht : t ≤ 1) (h18 : 18 ≤ s.size) (hn : h.count ≤ 300)
    (hr : ∀ (z : Nat) k, (z : Int) ≤ y.bytes → (tgaFromK s h z k).run y = ((y'.give (z : Int)).1, .bad kk aa)) : tgaMapR s h = .inl (kk, aa) := by
  cases hm : tgaMapR s h with
  | inr q =>
    obtain ⟨a0, M0⟩ := q
    have e := hr 0 (tgaSelK a0 M0) (by rw [R.b]; exact Int.le_refl _)
    have c := tgaFrom_cost (s := s) (h := h) (a0 := a0) (M0 := M0)
    have h1 := Dec.run_enough _ y s.size 0 R.r (tgaFrom_bal (a0 := a0) (M0 := M0) (h := h) h18) R.b (by rw [R.B]; exact tgaFrom_may hn) (by have := R.t; have := R.S; omega)
    rw [e, tgaFrom_told hm] at h1
    cases h1.1
  | inl g =>
    have e := hr 0 (tgaSelK 0 []) (by rw [R.b]; exact Int.le_refl _)
    have c := tgaFrom_cost (s := s) (h := h) (a0 := 0) (M0 := [])
    have h1 := Dec.run_enough _ y s.size 0 R.r (tgaFrom_bal (a0 := 0) (M0 := []) (h := h) h18) R.b (by rw [R.B]; exact tgaFrom_may hn) (by have := R.t; have := R.S; omega)
    rw [e, tgaFrom_toldBad hm] at h1
    have h2 := h1.1
    simp only at h2
    injection h2 with e1 e2
    rw [e1, e2]
theorem room_map {s : ByteArray} {h : TgaHd} {y y' : Led} {a m : Nat} {M : List Qc} {t : Int} (R : Room y 0 t) (ht : t ≤ 1) (h18 : 18 ≤ s.size) (hn : h.count ≤ 300) (hy : y'.reason = 0) (hb : y'.bytes = y.bytes + (m : Int))
    (hr : ∀ (z : Nat) k, (tgaFromK s h z k).run y = (k a M (z + m) m).run y') : tgaMapR s h = .inr (a, M) ∧ Room y' (m : Int) 400 := by
  cases hm : tgaMapR s h with
  | inl g =>
    have e := hr 0 (tgaSelK a M)
    have c := tgaFrom_cost (s := s) (h := h) (a0 := a) (M0 := M)
    have h1 := Dec.run_enough _ y s.size 0 R.r (tgaFrom_bal (a0 := a) (M0 := M) (h := h) h18) R.b (by rw [R.B]; exact tgaFrom_may hn) (by have := R.t; have := R.S; omega)
    rw [e, tgaFrom_toldBad hm] at h1
    have e2 : (tgaSelK a M a M (0 + m) m).run y' = ((y'.give ((0 + m : Nat) : Int)).1, tgaSel a M a M) := rfl
    rw [e2] at h1
    have h2 := h1.1
    simp only at h2
    unfold tgaSel at h2
    rw [if_pos ⟨rfl, rfl⟩] at h2
    cases h2
  | inr q =>
    obtain ⟨a0, M0⟩ := q
    have e := hr 0 (tgaSelK a0 M0)
    have c := tgaFrom_cost (s := s) (h := h) (a0 := a0) (M0 := M0)
    have h1 := Dec.run_enough _ y s.size 0 R.r (tgaFrom_bal (a0 := a0) (M0 := M0) (h := h) h18) R.b (by rw [R.B]; exact tgaFrom_may hn) (by have := R.t; have := R.S; omega)
    have h2 := Dec.run_room _ y s.size 0 R.r (tgaFrom_bal (a0 := a0) (M0 := M0) (h := h) h18) R.b (by rw [R.B]; exact tgaFrom_may hn) (by have := R.t; have := R.S; omega)
    rw [e] at h1 h2
    rw [tgaFrom_told hm] at h1
    have e2 : (tgaSelK a0 M0 a M (0 + m) m).run y' = ((y'.give ((0 + m : Nat) : Int)).1, tgaSel a0 M0 a M) := rfl
    rw [e2] at h1 h2
    obtain ⟨g1, g2, g3, g4, g5⟩ := led_give_fix y' ((0 + m : Nat) : Int)
    obtain ⟨i1, i2, i3, i4, i5⟩ := h2
    simp only at i1 i2 i3 i4 i5
    rw [g3] at i3
    rw [g4] at i4
    rw [g5] at i5
    obtain ⟨e3, e4⟩ := tgaSel_img h1.1
    exact ⟨by rw [e3, e4], hy, i3.trans R.B, i4.trans R.S, by rw [hb, R.b]; omega, by rw [i5]; have := R.t; omega⟩
/-- a pixel that isn't there -/
theorem room_pixel_no {s : ByteArray} {y y' : Led} {a n kk aa : Nat} {t b : Int} (R : Room y b t) (ht : t ≤ 9000) (nr : NoRead y' a s.size kk aa) (r2 : NoRun y y' a s.size (a + n ≤ s.size) kk aa) : kk = 1 ∧ aa = s.size ∧ ¬ a + n ≤ s.size := by
  obtain ⟨yy, e, _⟩ := work_is R ht
  have h1 := r2 0 (.fin (.bad 0 0))
  rw [run_work_yes e] at h1
  by_cases hs : a + n ≤ s.size
  · rw [if_pos hs] at h1
    have h4 : DRes.bad 0 0 = DRes.bad kk aa := congrArg Prod.snd h1
    injection h4 with h5 h6
    exact absurd h5.symm nr.ne
  · rw [if_neg hs] at h1
    have h4 : ((yy.give ((0 : Nat) : Int)).1, DRes.bad 1 s.size) = ((y'.give ((0 : Nat) : Int)).1, DRes.bad kk aa) := h1
    have h7 : DRes.bad 1 s.size = DRes.bad kk aa := congrArg Prod.snd h4
    injection h7 with h5 h6
    exact ⟨h5.symm, h6.symm, hs⟩
end Go.Proofs.Ytccldalagbfmhaa
