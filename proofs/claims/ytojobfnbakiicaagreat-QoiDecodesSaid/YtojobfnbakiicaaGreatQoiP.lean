/- qoi: high, need, shift, step. -/
import Derived.Test.YtojobfnbakiicaaGreatQoiLaw
import Derived.Test.YtojobfnbakiicaaGreatFfD
namespace Go.Proofs.YtojobfnbakiicaaGreat
open Go.RowKit
set_option linter.unusedVariables false
set_option linter.unusedSimpArgs false

theorem be4_or {c0 c1 c2 c3 : Nat} (h0 : c0 < 256) (h1 : c1 < 256) (h2 : c2 < 256) (h3 : c3 < 256) : bits .or .i64 (bits .or .i64 (bits .or .i64 ((c0 : Int) * 16777216) ((c1 : Int) * 65536)) ((c2 : Int) * 256)) (c3 : Int) = ((((c0 * 256 + c1) * 256 + c2) * 256 + c3 : Nat) : Int) := by
  have e1 : bits .or .i64 ((c0 : Int) * 16777216) ((c1 : Int) * 65536) = ((65536 * (c0 * 256 + c1) : Nat) : Int) := by
    rw [show (c0 : Int) * 16777216 = ((2 ^ 24 * c0 : Nat) : Int) by omega, show (c1 : Int) * 65536 = ((c1 * 65536 : Nat) : Int) by omega, or64 _ _ (by omega) (by omega), ← Nat.two_pow_add_eq_or_of_lt (by omega)]
    omega
  rw [e1]
  have e2 : bits .or .i64 ((65536 * (c0 * 256 + c1) : Nat) : Int) ((c2 : Int) * 256) = ((256 * ((c0 * 256 + c1) * 256 + c2) : Nat) : Int) := by
    rw [show 65536 * (c0 * 256 + c1) = 2 ^ 16 * (c0 * 256 + c1) by omega, show (c2 : Int) * 256 = ((c2 * 256 : Nat) : Int) by omega, or64 _ _ (by omega) (by omega), ← Nat.two_pow_add_eq_or_of_lt (by omega)]
    omega
  rw [e2, show 256 * ((c0 * 256 + c1) * 256 + c2) = 2 ^ 8 * ((c0 * 256 + c1) * 256 + c2) by omega, or64 _ _ (by omega) (by omega), ← Nat.two_pow_add_eq_or_of_lt (by omega)]
  omega
set_option maxRecDepth 100000 in
set_option maxHeartbeats 1000000 in
theorem qoiHighC {x : ByteArray} {a : Nat} (h : a + 4 ≤ x.size) (hs : x.size ≤ 1099511627776) (w : World) : Calls Tryz.prog 111 #[.string x, .int .i64 (a : Int)] w fun e w' => e = .returned (.int .i64 (beN x a 4 : Int)) ∧ w' = w.drew := by
  have i0 : (a : Int) < (x.size : Int) := by omega
  have i1 : (a : Int) + 1 < (x.size : Int) := by omega
  have i2 : (a : Int) + 2 < (x.size : Int) := by omega
  have i3 : (a : Int) + 3 < (x.size : Int) := by omega
  have n0 : a < x.size := by omega
  have n1 : a + 1 < x.size := by omega
  have n2 : a + 2 < x.size := by omega
  have n3 : a + 3 < x.size := by omega
  have c0 : x[a].toNat < 256 := UInt8.toNat_lt _
  have c1 : x[a + 1].toNat < 256 := UInt8.toNat_lt _
  have c2 : x[a + 2].toNat < 256 := UInt8.toNat_lt _
  have c3 : x[a + 3].toNat < 256 := UInt8.toNat_lt _
  have HE := Lib.hid (be4_or c0 c1 c2 c3)
  have hw1 := IntWalk.i64_in ((a : Int) + 1) (by omega)
  have hw2 := IntWalk.i64_in ((a : Int) + 2) (by omega)
  have hw3 := IntWalk.i64_in ((a : Int) + 3) (by omega)
  have j1 : 0 ≤ (a : Int) + 1 := by omega
  have j2 : 0 ≤ (a : Int) + 2 := by omega
  have j3 : 0 ≤ (a : Int) + 3 := by omega
  have t1 : ((a : Int) + 1).toNat = a + 1 := by omega
  have t2 : ((a : Int) + 2).toNat = a + 2 := by omega
  have t3 : ((a : Int) + 3).toNat = a + 3 := by omega
  go_enter Tryz.func111, Tryz.ntmps111
  go_wp2_with fail
  go_region
  go_wp2_with fail
  go_ret
  have e : beN x a 4 = ((x[a].toNat * 256 + x[a + 1].toNat) * 256 + x[a + 2].toNat) * 256 + x[a + 3].toNat := by
    simp only [beN, bat_eq n0, bat_eq n1, bat_eq n2, bat_eq n3, Nat.add_zero, Nat.zero_mul, Nat.zero_add]
  rw [e]
  exact ⟨ret1 (vint HE.out), rfl⟩
theorem qoiHigh_at {x : ByteArray} {a v : Nat} (h : a + 4 ≤ x.size) (hs : x.size ≤ 1099511627776) (hv : beN x a 4 = v) (w : World) : Calls Tryz.prog 111 #[.string x, .int .i64 (a : Int)] w fun e w' => e = .returned (.int .i64 (v : Int)) ∧ w' = w.drew := by
  rw [← hv]
  exact qoiHighC h hs w
theorem qoiNeed {b n : Nat} (hb : b < 256) (hn : qneed b = n) (w : World) : Calls Tryz.prog 118 #[.int .i64 (b : Int)] w fun e w' => e = .returned (.int .i64 (n : Int)) ∧ w = w' := by
  unfold qneed at hn
  by_cases h1 : b = 254
  · rw [if_pos h1] at hn
    subst hn h1
    go_enter Tryz.func118, Tryz.ntmps118
    go_wp2_with fail
    go_ret
    exact ⟨rfl, rfl⟩
  · rw [if_neg h1] at hn
    have k1 : ¬ (b : Int) = 254 := by omega
    by_cases h2 : b = 255
    · rw [if_pos h2] at hn
      subst hn h2
      go_enter Tryz.func118, Tryz.ntmps118
      go_wp2_with fail
      go_ret
      exact ⟨rfl, rfl⟩
    · rw [if_neg h2] at hn
      have k2 : ¬ (b : Int) = 255 := by omega
      by_cases h3 : b / 64 = 2
      · rw [if_pos h3] at hn
        have k3 : (b : Int) / 64 = 2 := by omega
        subst hn
        clear h1 h2 h3
        go_enter Tryz.func118, Tryz.ntmps118
        go_wp2_with fail
        go_ret
        exact ⟨rfl, rfl⟩
      · rw [if_neg h3] at hn
        have k3 : ¬ (b : Int) / 64 = 2 := by omega
        subst hn
        clear h1 h2 h3
        go_enter Tryz.func118, Tryz.ntmps118
        go_wp2_with fail
        go_ret
        exact ⟨rfl, rfl⟩
theorem qadd_int (v : UInt8) (d : Int) : ((qadd v d).toNat : Int) = ((v.toNat : Int) + d) % 256 := by
  unfold qadd
  have h : 0 ≤ ((v.toNat : Int) + d + 512) % 256 ∧ ((v.toNat : Int) + d + 512) % 256 < 256 := ⟨Int.emod_nonneg _ (by decide), Int.emod_lt_of_pos _ (by decide)⟩
  rw [ofNat8 (by omega)]
  omega
set_option maxRecDepth 100000 in
set_option maxHeartbeats 1000000 in
theorem qoiShift {w : World} {x : Nat} {last : Qc} {seen : List Qc} {r g b : Int} (h : CodAt w x last seen) (hr : -1000 ≤ r ∧ r ≤ 1000) (hg : -1000 ≤ g ∧ g ≤ 1000) (hb : -1000 ≤ b ∧ b ≤ 1000) : Calls Tryz.prog 162 #[.pointer (some ⟨x, 0, none⟩), .int .i64 r, .int .i64 g, .int .i64 b] w fun e w' => e = .returned (qshift last r g b).v ∧ Below w.heap.size w w' := by
  have hxl := Blk.lt h.1
  obtain ⟨l0, l1, l2, l3⟩ := CodAt.cell h 0 last rfl
  simp only [Nat.zero_mul, Nat.zero_add] at l0 l1 l2 l3
  clear h
  go_enter Tryz.func162, Tryz.ntmps162
  go_wp2_with fail
  simp only [← qadd_int]
  exact bodyPost_ret (v := (qshift last r g b).v) (by simp [results, Tryz.results162, go_sem, qshift, Qc.v]) rfl ⟨rfl, ((Below.refl _ _).alloc (Nat.le_refl _) _).alloc (by simp) _⟩
/-- the box of a step's result -/
theorem qb_new (w : World) : QB (w.alloc (.cells #[.int .u8 0, .int .u8 0, .int .u8 0, .int .u8 0] 67)) w.heap.size qnone := Blk.new _ _ _
set_option maxRecDepth 100000 in
set_option maxHeartbeats 1000000 in
theorem qoiStep_rgb {w : World} {x a : Nat} {s m : ByteArray} {last : Qc} {seen : List Qc} (h : CodAt w x last seen) (hb : bat s a = 254) (hm : m = s.extract (a + 1) (a + 1 + 3)) (hs : a + 1 + 3 ≤ s.size) : Calls Tryz.prog 119 #[.pointer (some ⟨x, 0, none⟩), .int .i64 (bat s a : Int), .string m] w fun e w' => e = .returned (.tuple #[(qstep s a last seen).1.v, .int .i64 ((qstep s a last seen).2 : Int)]) ∧ Below w.heap.size w w' := by
  have e : qstep s a last seen = (⟨b8 s (a + 1), b8 s (a + 2), b8 s (a + 3), last.a⟩, 1) := by unfold qstep; rw [if_pos hb]
  rw [e, hb]
  have hxl := Blk.lt h.1
  obtain ⟨l0, l1, l2, l3⟩ := CodAt.cell h 0 last rfl
  simp only [Nat.zero_mul, Nat.zero_add] at l0 l1 l2 l3
  have hz := extract_size s (a + 1) 3 hs
  have g0 : bat m 0 = bat s (a + 1) := by rw [hm, bat_extract s (a + 1) 3 0 (by omega)]
  have g1 : bat m 1 = bat s (a + 2) := by rw [hm, bat_extract s (a + 1) 3 1 (by omega)]
  have g2 : bat m 2 = bat s (a + 3) := by rw [hm, bat_extract s (a + 1) 3 2 (by omega)]
  rw [← hm] at hz
  have hz0 : 0 < m.size := by omega
  rw [bat_eq hz0] at g0
  have i0 : (0 : Int) < (m.size : Int) := by omega
  have hz1 : 1 < m.size := by omega
  rw [bat_eq hz1] at g1
  have i1 : (1 : Int) < (m.size : Int) := by omega
  have hz2 : 2 < m.size := by omega
  rw [bat_eq hz2] at g2
  have i2 : (2 : Int) < (m.size : Int) := by omega
  clear h e hm hz hb hs
  go_enter Tryz.func119, Tryz.ntmps119
  go_wp2_with fail
  go_region
  go_wp2_with fail
  exact bodyPost_ret (v := .tuple #[(⟨b8 s (a + 1), b8 s (a + 2), b8 s (a + 3), last.a⟩ : Qc).v, .int .i64 (1)]) (by simp [results, Tryz.results119, go_sem, Qc.v, b8_int]) rfl ⟨rfl, ((Below.refl _ _).alloc (Nat.le_refl _) _).drew⟩
set_option maxRecDepth 100000 in
set_option maxHeartbeats 1000000 in
theorem qoiStep_rgba {w : World} {x a : Nat} {s m : ByteArray} {last : Qc} {seen : List Qc} (h : CodAt w x last seen) (hb : bat s a = 255) (hm : m = s.extract (a + 1) (a + 1 + 4)) (hs : a + 1 + 4 ≤ s.size) : Calls Tryz.prog 119 #[.pointer (some ⟨x, 0, none⟩), .int .i64 (bat s a : Int), .string m] w fun e w' => e = .returned (.tuple #[(qstep s a last seen).1.v, .int .i64 ((qstep s a last seen).2 : Int)]) ∧ Below w.heap.size w w' := by
  have e : qstep s a last seen = (⟨b8 s (a + 1), b8 s (a + 2), b8 s (a + 3), b8 s (a + 4)⟩, 1) := by unfold qstep; rw [if_neg (by omega), if_pos hb]
  rw [e, hb]
  have hxl := Blk.lt h.1
  obtain ⟨l0, l1, l2, l3⟩ := CodAt.cell h 0 last rfl
  simp only [Nat.zero_mul, Nat.zero_add] at l0 l1 l2 l3
  have hz := extract_size s (a + 1) 4 hs
  have g0 : bat m 0 = bat s (a + 1) := by rw [hm, bat_extract s (a + 1) 4 0 (by omega)]
  have g1 : bat m 1 = bat s (a + 2) := by rw [hm, bat_extract s (a + 1) 4 1 (by omega)]
  have g2 : bat m 2 = bat s (a + 3) := by rw [hm, bat_extract s (a + 1) 4 2 (by omega)]
  have g3 : bat m 3 = bat s (a + 4) := by rw [hm, bat_extract s (a + 1) 4 3 (by omega)]
  rw [← hm] at hz
  have hz0 : 0 < m.size := by omega
  rw [bat_eq hz0] at g0
  have i0 : (0 : Int) < (m.size : Int) := by omega
  have hz1 : 1 < m.size := by omega
  rw [bat_eq hz1] at g1
  have i1 : (1 : Int) < (m.size : Int) := by omega
  have hz2 : 2 < m.size := by omega
  rw [bat_eq hz2] at g2
  have i2 : (2 : Int) < (m.size : Int) := by omega
  have hz3 : 3 < m.size := by omega
  rw [bat_eq hz3] at g3
  have i3 : (3 : Int) < (m.size : Int) := by omega
  clear h e hm hz hb hs
  go_enter Tryz.func119, Tryz.ntmps119
  go_wp2_with fail
  go_region
  go_wp2_with fail
  exact bodyPost_ret (v := .tuple #[(⟨b8 s (a + 1), b8 s (a + 2), b8 s (a + 3), b8 s (a + 4)⟩ : Qc).v, .int .i64 (1)]) (by simp [results, Tryz.results119, go_sem, Qc.v, b8_int]) rfl ⟨rfl, ((Below.refl _ _).alloc (Nat.le_refl _) _).drew⟩
set_option maxRecDepth 100000 in
set_option maxHeartbeats 1000000 in
theorem qoiStep_index {w : World} {x a : Nat} {s m : ByteArray} {last : Qc} {seen : List Qc} (h : CodAt w x last seen) (hb : bat s a < 64) : Calls Tryz.prog 119 #[.pointer (some ⟨x, 0, none⟩), .int .i64 (bat s a : Int), .string m] w fun e w' => e = .returned (.tuple #[(qstep s a last seen).1.v, .int .i64 ((qstep s a last seen).2 : Int)]) ∧ Below w.heap.size w w' := by
  have e : qstep s a last seen = (seen.getD (bat s a) qnone, 1) := by unfold qstep; rw [if_neg (by omega), if_neg (by omega), if_pos hb]
  rw [e]
  clear e
  have hB := bat_lt s a
  generalize bat s a = B at *
  have b1 : ¬ (B : Int) = 254 := by omega
  have b2 : ¬ (B : Int) = 255 := by omega
  have hand : bits .and .i64 (B : Int) 63 = ((B % 64 : Nat) : Int) := and_mask B 6 (by omega) (by omega)
  have b3 : (B : Int) / 64 = 0 := by omega
  have hand2 : ((B % 64 : Nat) : Int) = (B : Int) := by omega
  rw [hand2] at hand
  obtain ⟨q, hq⟩ : ∃ q, seen[B]? = some q := ⟨seen[B]'(by have := h.2; omega), List.getElem?_eq_getElem _⟩
  have eq : seen.getD B qnone = q := by rw [List.getD_eq_getElem?_getD, hq]; rfl
  rw [eq]
  have hxl := Blk.lt h.1
  obtain ⟨s0', s1', s2', s3'⟩ := CodAt.cell h (B + 1) q (show (last :: seen)[B + 1]? = some q from hq)
  have e4 : ∀ j, 4 + B * 4 + j = (B + 1) * 4 + j := fun j => by omega
  have s0 : w.cell? ⟨x, 4 + B * 4, none⟩ = some (.int .u8 (q.r.toNat : Int)) := by rw [show 4 + B * 4 = (B + 1) * 4 from by omega]; exact s0'
  have s1 : w.cell? ⟨x, 4 + B * 4 + 1, none⟩ = some (.int .u8 (q.g.toNat : Int)) := by rw [e4]; exact s1'
  have s2 : w.cell? ⟨x, 4 + B * 4 + 2, none⟩ = some (.int .u8 (q.b.toNat : Int)) := by rw [e4]; exact s2'
  have s3 : w.cell? ⟨x, 4 + B * 4 + 3, none⟩ = some (.int .u8 (q.a.toNat : Int)) := by rw [e4]; exact s3'
  clear e4 s0' s1' s2' s3' hq eq h
  have k0 : (0 : Int) ≤ (B : Int) := Int.natCast_nonneg _
  have k1 : (B : Int) < 64 := by omega
  have k2 : (B : Int) < ((64 : Nat) : Int) := by omega
  clear hb hand2 hB
  go_enter Tryz.func119, Tryz.ntmps119
  go_wp2_with fail
  exact bodyPost_ret (v := .tuple #[(q : Qc).v, .int .i64 (1)]) (by simp [results, Tryz.results119, go_sem, Qc.v, b8_int]) rfl ⟨rfl, (Below.refl _ _).alloc (Nat.le_refl _) _⟩
set_option maxRecDepth 100000 in
set_option maxHeartbeats 1000000 in
theorem qoiStep_diff {w : World} {x a : Nat} {s m : ByteArray} {last : Qc} {seen : List Qc} (h : CodAt w x last seen) (hb1 : 64 ≤ bat s a) (hb2 : bat s a < 128) : Calls Tryz.prog 119 #[.pointer (some ⟨x, 0, none⟩), .int .i64 (bat s a : Int), .string m] w fun e w' => e = .returned (.tuple #[(qstep s a last seen).1.v, .int .i64 ((qstep s a last seen).2 : Int)]) ∧ Below w.heap.size w w' := by
  have e : qstep s a last seen = (qshift last (((bat s a % 64 / 16 : Nat) : Int) - 2) (((bat s a / 4 % 4 : Nat) : Int) - 2) (((bat s a % 4 : Nat) : Int) - 2), 1) := by unfold qstep; rw [if_neg (by omega), if_neg (by omega), if_neg (by omega), if_pos hb2]
  rw [e]
  clear e
  have hB := bat_lt s a
  generalize bat s a = B at *
  have b1 : ¬ (B : Int) = 254 := by omega
  have b2 : ¬ (B : Int) = 255 := by omega
  have hand : bits .and .i64 (B : Int) 63 = ((B % 64 : Nat) : Int) := and_mask B 6 (by omega) (by omega)
  have b3 : ¬ (B : Int) / 64 = 0 := by omega
  have b4 : (B : Int) / 64 = 1 := by omega
  have C1 : CodAt (w.alloc (.cells #[.int .u8 0, .int .u8 0, .int .u8 0, .int .u8 0] 67)) x last seen := ⟨Blk.alloc h.1 _, h.2⟩
  have Q1 := qb_new w
  obtain ⟨N, hN⟩ : ∃ N, N = B % 64 := ⟨_, rfl⟩
  have hn : bits .and .i64 (B : Int) 63 = (N : Int) := by rw [hand, hN]
  have n1 : bits .and .i64 ((N : Int) / 4) 3 = ((B / 4 % 4 : Nat) : Int) := by
    rw [show (N : Int) / 4 = ((N / 4 : Nat) : Int) by omega, show (3 : Int) = (((2 ^ 2 - 1 : Nat)) : Int) by decide, and_mask (N / 4) 2 (by omega) (by omega)]; omega
  have n2 : bits .and .i64 (N : Int) 3 = ((B % 4 : Nat) : Int) := by
    rw [show (3 : Int) = (((2 ^ 2 - 1 : Nat)) : Int) by decide, and_mask N 2 (by omega) (by omega)]; omega
  have n0 : (N : Int) / 16 = ((B % 64 / 16 : Nat) : Int) := by omega
  generalize hR : B % 64 / 16 = R at *
  generalize hG : B / 4 % 4 = G at *
  generalize hL : B % 4 = L at *
  have rb : (R : Int) ≤ 3 := by omega
  have gb : (G : Int) ≤ 3 := by omega
  have lb : (L : Int) ≤ 3 := by omega
  have H := Lib.hid (fun w (c : CodAt w x last seen) => qoiShift (r := (R : Int) - 2) (g := (G : Int) - 2) (b := (L : Int) - 2) c (by omega) (by omega) (by omega))
  obtain ⟨q, hqq⟩ : ∃ q, qshift last ((R : Int) - 2) ((G : Int) - 2) ((L : Int) - 2) = q := ⟨_, rfl⟩
  rw [hqq] at H ⊢
  clear hand h hR hG hL hN hB hb1 hb2 hqq
  have HC := Lib.hid C1
  have HQ := Lib.hid Q1
  clear C1 Q1
  go_enter Tryz.func119, Tryz.ntmps119
  go_wp2_with (go_at_call 162; refine (H.out _ HC.out).mono ?_; rintro e w1 ⟨rfl, b1'⟩; have Q2 : QB w1 w.heap.size qnone := Blk.below HQ.out b1' (Blk.lt HQ.out); obtain ⟨q0, q1, q2, q3, ql⟩ := QB.all Q2; have z0 := Blk.frozen Q2 0; have z1 := Blk.frozen Q2 1; have z2 := Blk.frozen Q2 2; have z3 := Blk.frozen Q2 3; have B2 : Below w.heap.size w w1 := below_next ((Below.refl _ _).alloc (Nat.le_refl _) _) b1'; unfold Qc.v)
  exact bodyPost_ret (v := .tuple #[(q : Qc).v, .int .i64 (1)]) (by simp [results, Tryz.results119, go_sem, Qc.v, q0, q1, q2, q3]) rfl ⟨rfl, below_set4 B2 (Nat.le_refl _)⟩
set_option maxRecDepth 100000 in
set_option maxHeartbeats 1000000 in
theorem qoiStep_luma {w : World} {x a : Nat} {s m : ByteArray} {last : Qc} {seen : List Qc} (h : CodAt w x last seen) (hb1 : 128 ≤ bat s a) (hb2 : bat s a < 192) (hm : m = s.extract (a + 1) (a + 1 + 1)) (hs : a + 1 + 1 ≤ s.size) : Calls Tryz.prog 119 #[.pointer (some ⟨x, 0, none⟩), .int .i64 (bat s a : Int), .string m] w fun e w' => e = .returned (.tuple #[(qstep s a last seen).1.v, .int .i64 ((qstep s a last seen).2 : Int)]) ∧ Below w.heap.size w w' := by
  have e : qstep s a last seen = (qshift last (((bat s a % 64 : Nat) : Int) - 32 + ((bat s (a + 1) / 16 : Nat) : Int) - 8) (((bat s a % 64 : Nat) : Int) - 32) (((bat s a % 64 : Nat) : Int) - 32 + ((bat s (a + 1) % 16 : Nat) : Int) - 8), 1) := by unfold qstep; rw [if_neg (by omega), if_neg (by omega), if_neg (by omega), if_neg (by omega), if_pos hb2]
  rw [e]
  clear e
  have hz := extract_size s (a + 1) 1 hs
  have g0 : bat m 0 = bat s (a + 1) := by rw [hm, bat_extract s (a + 1) 1 0 (by omega)]
  rw [← hm] at hz
  have hz0 : 0 < m.size := by omega
  rw [bat_eq hz0] at g0
  have i0 : (0 : Int) < (m.size : Int) := by omega
  clear hm hz hs
  have hC := bat_lt s (a + 1)
  generalize bat s (a + 1) = C at *
  have hB := bat_lt s a
  generalize bat s a = B at *
  have b1 : ¬ (B : Int) = 254 := by omega
  have b2 : ¬ (B : Int) = 255 := by omega
  have hand : bits .and .i64 (B : Int) 63 = ((B % 64 : Nat) : Int) := and_mask B 6 (by omega) (by omega)
  have b3 : ¬ (B : Int) / 64 = 0 := by omega
  have b4 : ¬ (B : Int) / 64 = 1 := by omega
  have b5 : (B : Int) / 64 = 2 := by omega
  have C1 : CodAt (w.alloc (.cells #[.int .u8 0, .int .u8 0, .int .u8 0, .int .u8 0] 67)).drew x last seen := ⟨Blk.alloc h.1 _, h.2⟩
  have Q1 := (qb_new w).drew
  obtain ⟨N, hN⟩ : ∃ N, N = B % 64 := ⟨_, rfl⟩
  have hn : bits .and .i64 (B : Int) 63 = (N : Int) := by rw [hand, hN]
  have n1 : bits .and .i64 (C : Int) 15 = ((C % 16 : Nat) : Int) := and_mask C 4 (by omega) (by omega)
  have n0 : (C : Int) / 16 = ((C / 16 : Nat) : Int) := by omega
  rw [← hN]
  generalize hR : C / 16 = R at *
  generalize hG : C % 16 = G at *
  have rb : (R : Int) ≤ 15 := by omega
  have gb : (G : Int) ≤ 15 := by omega
  have nb : (N : Int) ≤ 63 := by omega
  have H := Lib.hid (fun w (c : CodAt w x last seen) => qoiShift (r := (N : Int) - 32 + (R : Int) - 8) (g := (N : Int) - 32) (b := (N : Int) - 32 + (G : Int) - 8) c (by omega) (by omega) (by omega))
  obtain ⟨q, hqq⟩ : ∃ q, qshift last ((N : Int) - 32 + (R : Int) - 8) ((N : Int) - 32) ((N : Int) - 32 + (G : Int) - 8) = q := ⟨_, rfl⟩
  rw [hqq] at H ⊢
  clear hand h hR hG hN hB hb1 hb2 hC hqq
  have HC := Lib.hid C1
  have HQ := Lib.hid Q1
  clear C1 Q1
  go_enter Tryz.func119, Tryz.ntmps119
  go_wp2_with fail
  go_region
  go_wp2_with (go_at_call 162; refine (H.out _ HC.out).mono ?_; rintro e w1 ⟨rfl, b1'⟩; have Q2 : QB w1 w.heap.size qnone := Blk.below HQ.out b1' (Blk.lt HQ.out); obtain ⟨q0, q1, q2, q3, ql⟩ := QB.all Q2; have z0 := Blk.frozen Q2 0; have z1 := Blk.frozen Q2 1; have z2 := Blk.frozen Q2 2; have z3 := Blk.frozen Q2 3; have B2 : Below w.heap.size w w1 := below_next ((Below.refl _ _).alloc (Nat.le_refl _) _).drew b1'; unfold Qc.v)
  exact bodyPost_ret (v := .tuple #[(q : Qc).v, .int .i64 (1)]) (by simp [results, Tryz.results119, go_sem, Qc.v, q0, q1, q2, q3]) rfl ⟨rfl, below_set4 B2 (Nat.le_refl _)⟩
set_option maxRecDepth 100000 in
set_option maxHeartbeats 1000000 in
theorem qoiStep_run {w : World} {x a : Nat} {s m : ByteArray} {last : Qc} {seen : List Qc} (h : CodAt w x last seen) (hb1 : 192 ≤ bat s a) (hb2 : bat s a < 254) : Calls Tryz.prog 119 #[.pointer (some ⟨x, 0, none⟩), .int .i64 (bat s a : Int), .string m] w fun e w' => e = .returned (.tuple #[(qstep s a last seen).1.v, .int .i64 ((qstep s a last seen).2 : Int)]) ∧ Below w.heap.size w w' := by
  have e : qstep s a last seen = (last, bat s a % 64 + 1) := by unfold qstep; rw [if_neg (by omega), if_neg (by omega), if_neg (by omega), if_neg (by omega), if_neg (by omega)]
  rw [e]
  clear e
  have hB := bat_lt s a
  generalize bat s a = B at *
  have b1 : ¬ (B : Int) = 254 := by omega
  have b2 : ¬ (B : Int) = 255 := by omega
  have hand : bits .and .i64 (B : Int) 63 = ((B % 64 : Nat) : Int) := and_mask B 6 (by omega) (by omega)
  have hxl := Blk.lt h.1
  obtain ⟨l0, l1, l2, l3⟩ := CodAt.cell h 0 last rfl
  simp only [Nat.zero_mul, Nat.zero_add] at l0 l1 l2 l3
  have b3 : ¬ (B : Int) / 64 = 0 := by omega
  have b4 : ¬ (B : Int) / 64 = 1 := by omega
  have b5 : ¬ (B : Int) / 64 = 2 := by omega
  obtain ⟨N, hN⟩ : ∃ N, N = B % 64 := ⟨_, rfl⟩
  have hn : bits .and .i64 (B : Int) 63 = (N : Int) := by rw [hand, hN]
  rw [← hN]
  have nb : (N : Int) ≤ 63 := by omega
  clear hand h hN hB hb1 hb2
  go_enter Tryz.func119, Tryz.ntmps119
  go_wp2_with fail
  exact bodyPost_ret (v := .tuple #[(last : Qc).v, .int .i64 (((N + 1 : Nat) : Int))]) (by simp [results, Tryz.results119, go_sem, Qc.v, b8_int]) rfl ⟨rfl, (Below.refl _ _).alloc (Nat.le_refl _) _⟩
/-- a step, told whole -/
theorem qoiStep {w : World} {x a : Nat} {s m : ByteArray} {last : Qc} {seen : List Qc} (h : CodAt w x last seen) (hm : 0 < qneed (bat s a) → m = s.extract (a + 1) (a + 1 + qneed (bat s a))) (hs : a + 1 + qneed (bat s a) ≤ s.size) : Calls Tryz.prog 119 #[.pointer (some ⟨x, 0, none⟩), .int .i64 (bat s a : Int), .string m] w fun e w' => e = .returned (.tuple #[(qstep s a last seen).1.v, .int .i64 ((qstep s a last seen).2 : Int)]) ∧ Below w.heap.size w w' := by
  have hB := bat_lt s a
  by_cases h1 : bat s a = 254
  · have e : qneed (bat s a) = 3 := by unfold qneed; rw [if_pos h1]
    rw [e] at hm hs
    exact qoiStep_rgb h h1 (hm (by decide)) hs
  by_cases h2 : bat s a = 255
  · have e : qneed (bat s a) = 4 := by unfold qneed; rw [if_neg h1, if_pos h2]
    rw [e] at hm hs
    exact qoiStep_rgba h h2 (hm (by decide)) hs
  by_cases h3 : bat s a < 64
  · exact qoiStep_index h h3
  by_cases h4 : bat s a < 128
  · exact qoiStep_diff h (by omega) h4
  by_cases h5 : bat s a < 192
  · have e : qneed (bat s a) = 1 := by unfold qneed; rw [if_neg h1, if_neg h2, if_pos (by omega)]
    rw [e] at hm hs
    exact qoiStep_luma h (by omega) h5 (hm (by decide)) hs
  · exact qoiStep_run h (by omega) (by omega)
end Go.Proofs.YtojobfnbakiicaaGreat
