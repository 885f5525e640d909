/- The program's Read by it. -/
import Derived.Test.YtegoakfhadmblaaPnmHead
import Derived.Test.YtegoakfhadmblaaPnmOne
import Derived.Test.YtegoakfhadmblaaPnmRead2
namespace Go.Proofs.Ytegoakfhadmblaa
open Go.RowKit
set_option linter.unusedVariables false
set_option linter.unusedSimpArgs false

theorem pnum_cases {p g : Nat} {s : ByteArray} {x : Led} (a k most above : Nat) (ha : a ≤ s.size) (hsm : s.size ≤ 1099511627776) (hx : x.reason = 0) (ok : x.Ok) (hs : x.steps + k + (s.size - a + 2 : Nat) ≤ x.S) (hm : most ≤ 100000) (hab : above ≤ 4) (hab0 : above ≠ 0) :
    (∃ kd pl, hnum (nats s) a most above = ⟨0, 0, 0, kd, pl⟩ ∧ kd ≠ 0 ∧ kd ≤ 4 ∧ pl ≤ s.size ∧ NumBad p g s x a k most above kd pl) ∨
    (∃ V n, hnum (nats s) a most above = ⟨V, 0, n, 0, 0⟩ ∧ V ≠ 0 ∧ V ≤ most ∧ n ≤ s.size ∧ a ≤ n ∧ NumOk p g s x a k most above V n (k + nCost (nats s) a)) := by
  have hlen := nats_len s
  have hnc := nCost_le (nats s) a (by omega)
  rw [hlen] at hnc
  have o : SrcOk s 0 s.size a := ⟨Nat.zero_le _, ha, Nat.le_refl _, hsm⟩
  have hs' : x.steps + k + nCost (nats s) a ≤ x.S := by omega
  rcases hnum_or (nats s) a most above (by omega) with ⟨kd, pl, h, q, h0, h2, hp⟩ | ⟨f, n, h, q, hp⟩ | ⟨V, f, n, h, q, h0, hmV, hp, hV⟩ | ⟨V, f, n, h, q, h0, hmV, hn, han, hp⟩
  · refine .inl ⟨kd, pl, q, h0, by omega, by omega, fun w hS hL => (pnum_bad (V := 0) (f := 0) (n := 0) hS o hL hx ok hs' hm hab h h0).mono ?_⟩
    rintro e w' ⟨rfl, _, t⟩
    exact ⟨rfl, t⟩
  · refine .inl ⟨2, f, q, by decide, by decide, by omega, fun w hS hL => (pnum_zero (kd := 0) (pl := 0) (V := 0) hS o hL hx ok hs' hm hab h).mono ?_⟩
    rintro e w' ⟨rfl, _, t⟩
    exact ⟨rfl, t⟩
  · refine .inl ⟨above, f, q, hab0, hab, by omega, fun w hS hL => (pnum_above (kd := 0) (pl := 0) hS o hL hx ok hs' hm hab h h0 hmV).mono ?_⟩
    rintro e w' ⟨rfl, _, t⟩
    exact ⟨rfl, t⟩
  · refine .inr ⟨V, n, q, h0, hmV, by omega, han, fun w hS hL => (pnum_ok (kd := 0) (pl := 0) hS o hL hx ok hs' hm hab h h0 hmV).mono ?_⟩
    rintro e w' ⟨rfl, t⟩
    exact ⟨rfl, t⟩

/-- the program's Read, by the plain head -/
theorem pread_cases {w : World} {p g : Nat} {s : ByteArray} {x : Led} (h : SrcAt w p g s 0 s.size 0) (hl : LedAt w g x) (hsm : s.size ≤ 1099511627776) (hx : x.reason = 0) (ok : x.Ok) (hs : x.steps + (3 * s.size + 20 : Nat) ≤ x.S) :
    (∃ kd pl, headAt (nats s) = hbad kd pl ∧ kd ≠ 0 ∧ kd ≤ 4 ∧ pl ≤ s.size ∧ Calls Try.prog 16 #[.pointer (some ⟨p, 0, none⟩)] w fun e w' => e = .returned (.tuple #[.agg #[.int .i64 0, .int .i64 0, .int .i64 0, .int .i64 0, .int .i64 0], .agg #[.int .i64 (kd : Int), .int .i64 3, .int .i64 (pl : Int)]]) ∧ Turn [p, g] w w') ∨
    (∃ K W H M n, headAt (nats s) = ⟨K, W, H, M, n, 0, 0⟩ ∧ K ≤ 6 ∧ W ≤ 16384 ∧ H ≤ 16384 ∧ M ≤ 65535 ∧ n ≤ s.size ∧ Calls Try.prog 16 #[.pointer (some ⟨p, 0, none⟩)] w fun e w' => e = .returned (.tuple #[.agg #[.int .i64 (K : Int), .int .i64 (W : Int), .int .i64 (H : Int), .int .i64 (M : Int), .int .i64 (n : Int)], .agg #[.int .i64 0, .int .i64 0, .int .i64 0]]) ∧ SrcAt w' p g s 0 s.size n ∧ Turn [p, g] w w') := by
  have hlen := nats_len s
  unfold headAt
  rw [hlen, show (nats s).getD 0 0 = bat s 0 from rfl, show (nats s).getD 1 0 = bat s 1 from rfl]
  by_cases h1 : s.size < 1
  · rw [if_pos h1]
    refine .inl ⟨1, 0, rfl, by decide, by decide, by omega, read_bad0 h hl (fun w hS hL => (kind_end0 hS hsm hL hx ok (by omega) (by omega)).mono ?_) (by decide)⟩
    rintro e w' ⟨rfl, _, _, t⟩
    exact ⟨rfl, t⟩
  rw [if_neg h1]
  by_cases h2 : bat s 0 ≠ 80
  · rw [if_pos h2]
    refine .inl ⟨2, 0, rfl, by decide, by decide, by omega, read_bad0 h hl (fun w hS hL => (kind_wrong0 hS hsm hL hx ok (by omega) (by omega) h2).mono ?_) (by decide)⟩
    rintro e w' ⟨rfl, _, _, t⟩
    exact ⟨rfl, t⟩
  rw [if_neg h2]
  have h2' : bat s 0 = 80 := by omega
  by_cases h3 : s.size < 2
  · rw [if_pos h3]
    refine .inl ⟨1, 1, rfl, by decide, by decide, by omega, read_bad0 h hl (fun w hS hL => (kind_end1 hS hsm hL hx ok (by omega) (by omega) (by omega) h2').mono ?_) (by decide)⟩
    rintro e w' ⟨rfl, _, _, t⟩
    exact ⟨rfl, t⟩
  rw [if_neg h3]
  by_cases h4 : bat s 1 < 49 ∨ 54 < bat s 1
  · rw [if_pos h4]
    refine .inl ⟨2, 1, rfl, by decide, by decide, by omega, ?_⟩
    rcases h4 with h4 | h4
    · refine read_bad0 h hl (fun w hS hL => (kind_wrong1a hS hsm hL hx ok (by omega) (by omega) (by omega) h2' h4).mono ?_) (by decide)
      rintro e w' ⟨rfl, _, _, t⟩
      exact ⟨rfl, t⟩
    · refine read_bad0 h hl (fun w hS hL => (kind_wrong1b hS hsm hL hx ok (by omega) (by omega) (by omega) h2' h4).mono ?_) (by decide)
      rintro e w' ⟨rfl, _, _, t⟩
      exact ⟨rfl, t⟩
  rw [if_neg h4]
  have hk : KindOk p g s x (bat s 1 - 48) := fun w hS hL => kind_ok hS hsm hL hx ok (by omega) (by omega) (by omega) h2' (by omega)
  obtain ⟨K, hK⟩ : ∃ K, K = bat s 1 - 48 := ⟨_, rfl⟩
  have hK1 : 1 ≤ K ∧ K ≤ 6 := by omega
  rw [← hK] at hk ⊢
  clear hK h4 h2 h2'
  unfold hsides hrest1
  simp only
  rcases pnum_cases (p := p) (g := g) 2 2 16384 3 (by omega) hsm hx ok (by omega) (by decide) (by decide) (by decide) with ⟨kd, pl, e1, k0, k4, kp, c1⟩ | ⟨W, n1, e1, W0, Wm, l1, a1, c1⟩
  · simp only [e1]
    rw [if_pos k0]
    exact .inl ⟨kd, pl, rfl, k0, k4, kp, read_bad1 h hl hk c1 k0⟩
  simp only [e1]
  rw [if_neg (by simp)]
  unfold hrest2
  simp only
  have d1 := nCost_le (nats s) 2 (by omega)
  rw [hlen] at d1
  generalize hk1 : 2 + nCost (nats s) 2 = k1 at c1
  rcases pnum_cases (p := p) (g := g) n1 k1 16384 3 l1 hsm hx ok (by omega) (by decide) (by decide) (by decide) with ⟨kd, pl, e2, k0, k4, kp, c2⟩ | ⟨Hh, n2, e2, H0, Hm, l2, a2, c2⟩
  · simp only [e2]
    rw [if_pos k0]
    exact .inl ⟨kd, pl, rfl, k0, k4, kp, read_bad2 h hl hk c1 c2 k0⟩
  simp only [e2]
  rw [if_neg (by simp)]
  have d2 := nCost_le (nats s) n1 (by omega)
  rw [hlen] at d2
  generalize hk2 : k1 + nCost (nats s) n1 = k2 at c2
  unfold hmost
  by_cases hb : K = 1 ∨ K = 4
  · rw [if_pos hb]
    unfold hfin
    by_cases h4 : 4 ≤ K
    · rw [if_pos h4]
      by_cases h5 : s.size ≤ n2
      · rw [hlen, if_pos h5]
        exact .inl ⟨1, s.size, rfl, by decide, by decide, Nat.le_refl _, read_one_b h hl hk c1 c2 hb (by omega) (one_end l2 hsm hx ok (by omega) (by omega) (by omega)) (by decide)⟩
      · rw [hlen, if_neg h5]
        rw [show (nats s).getD n2 0 = bat s n2 from rfl]
        by_cases h6 : isBlank (bat s n2) = true
        · rw [if_pos h6]
          exact .inr ⟨K, W, Hh, 1, n2 + 1, rfl, hK1.2, Wm, Hm, by decide, by omega, read_ok_br h hl hk c1 c2 hb (by omega) (one_yes l2 hsm hx ok (by omega) (by omega) h6)⟩
        · rw [if_neg h6]
          exact .inl ⟨2, n2, rfl, by decide, by decide, l2, read_one_b h hl hk c1 c2 hb (by omega) (one_wrong l2 hsm hx ok (by omega) (by omega) (bool_no h6)) (by decide)⟩
    · rw [if_neg h4]
      exact .inr ⟨K, W, Hh, 1, n2, rfl, hK1.2, Wm, Hm, by decide, by omega, read_ok_bt h hl hk c1 c2 hb (by omega)⟩
  rw [if_neg hb]
  simp only
  rcases pnum_cases (p := p) (g := g) n2 k2 65535 2 l2 hsm hx ok (by omega) (by decide) (by decide) (by decide) with ⟨kd, pl, e3, k0, k4, kp, c3⟩ | ⟨M, n3, e3, M0, Mm, l3, a3, c3⟩
  · simp only [e3]
    rw [if_pos k0]
    exact .inl ⟨kd, pl, rfl, k0, k4, kp, read_bad3 h hl hk c1 c2 hb c3 k0⟩
  simp only [e3]
  rw [if_neg (by simp)]
  have d3 := nCost_le (nats s) n2 (by omega)
  rw [hlen] at d3
  generalize hk3 : k2 + nCost (nats s) n2 = k3 at c3
  unfold hfin
  by_cases h4 : 4 ≤ K
  · rw [if_pos h4]
    by_cases h5 : s.size ≤ n3
    · rw [hlen, if_pos h5]
      exact .inl ⟨1, s.size, rfl, by decide, by decide, Nat.le_refl _, read_one_n h hl hk c1 c2 hb (by omega) c3 (one_end l3 hsm hx ok (by omega) (by omega) (by omega)) (by decide)⟩
    · rw [hlen, if_neg h5]
      rw [show (nats s).getD n3 0 = bat s n3 from rfl]
      by_cases h6 : isBlank (bat s n3) = true
      · rw [if_pos h6]
        exact .inr ⟨K, W, Hh, M, n3 + 1, rfl, hK1.2, Wm, Hm, Mm, by omega, read_ok_nr h hl hk c1 c2 hb (by omega) c3 (one_yes l3 hsm hx ok (by omega) (by omega) h6)⟩
      · rw [if_neg h6]
        exact .inl ⟨2, n3, rfl, by decide, by decide, l3, read_one_n h hl hk c1 c2 hb (by omega) c3 (one_wrong l3 hsm hx ok (by omega) (by omega) (bool_no h6)) (by decide)⟩
  · rw [if_neg h4]
    exact .inr ⟨K, W, Hh, M, n3, rfl, hK1.2, Wm, Hm, Mm, by omega, read_ok_nt h hl hk c1 c2 hb (by omega) c3⟩
end Go.Proofs.Ytegoakfhadmblaa
