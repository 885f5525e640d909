/- The document's Read of a head of TGA's: with a map; all ways. -/
import Derived.Test.YtlehkgkomjojmaaGreatSq
import Derived.Test.YtlehkgkomjojmaaGreatGTgaN
namespace Go.Proofs.YtlehkgkomjojmaaGreat
open Go.RowKit
set_option linter.unusedVariables false
set_option linter.unusedSimpArgs false

set_option maxRecDepth 100000 in
set_option maxHeartbeats 8000000 in
theorem refTgaRead_m1e {s : ByteArray} (h18 : ¬ s.size < 18) (hskip : ¬ (1 < bat s 1 ∨ ¬ TgaKnown (bat s 2) ∨ (tgaPlain (bat s 2) = 1 ∧ bat s 1 ≠ 1))) (hmm : bat s 1 = 1) (hbad : ¬ TgaCol (bat s 7) ∨ le2 s 5 = 0 ∨ le2 s 12 = 0 ∨ 16384 < le2 s 12 ∨ le2 s 14 = 0 ∨ 16384 < le2 s 14) (hsm : s.size ≤ 9223372036854775807) (w : World) : Calls Tryz.prog 72 #[.string s] w fun e w' => e = .returned (tgaRdV s) ∧ Below w.heap.size w w' := by
 obtain ⟨n, e0⟩ : ∃ x, bat s 0 = x := ⟨_, rfl⟩
 obtain ⟨m, e1⟩ : ∃ x, bat s 1 = x := ⟨_, rfl⟩
 obtain ⟨t, e2⟩ : ∃ x, bat s 2 = x := ⟨_, rfl⟩
 obtain ⟨en, e7⟩ : ∃ x, bat s 7 = x := ⟨_, rfl⟩
 obtain ⟨d, e16⟩ : ∃ x, bat s 16 = x := ⟨_, rfl⟩
 obtain ⟨f, e17⟩ : ∃ x, bat s 17 = x := ⟨_, rfl⟩
 obtain ⟨fi, e3⟩ : ∃ x, le2 s 3 = x := ⟨_, rfl⟩
 obtain ⟨c, e5⟩ : ∃ x, le2 s 5 = x := ⟨_, rfl⟩
 obtain ⟨W, eW⟩ : ∃ x, le2 s 12 = x := ⟨_, rfl⟩
 obtain ⟨H, eH⟩ : ∃ x, le2 s 14 = x := ⟨_, rfl⟩
 have HF := Lib.hid (tgaFault_if e1 e2 e17 e7 e5 eW eH e16)
 have hv : tRV (tgaHd s) = .agg #[.int .i64 (n : Int), .int .i64 (if decide (m = 1) then 1 else 0), .int .i64 (t : Int), .int .i64 (((if m = 1 then fi else 0) : Nat) : Int), .int .i64 (((if m = 1 then c else 0) : Nat) : Int), .int .i64 (((if m = 1 then en else 0) : Nat) : Int), .int .i64 (W : Int), .int .i64 (H : Int), .int .i64 (d : Int), .int .i64 ((f % 16 : Nat) : Int), .bool (decide (f / 16 % 2 = 1)), .bool (decide (f / 32 % 2 = 1)), .int .i64 0, .int .i64 0] := by
  unfold tRV tRdV tgaHd
  rw [e0, e1, e2, e3, e5, e7, eW, eH, e16, e17]
 have bn := bat_lt s 0
 have bm := bat_lt s 1
 have bt := bat_lt s 2
 have be := bat_lt s 7
 have bd := bat_lt s 16
 have bf := bat_lt s 17
 rw [e0] at bn
 rw [e1] at bm
 rw [e2] at bt
 rw [e7] at be
 rw [e16] at bd
 rw [e17] at bf
 obtain ⟨al, hal⟩ : ∃ al, f % 16 = al := ⟨_, rfl⟩
 obtain ⟨lf, hlf⟩ : ∃ lf, decide (f / 16 % 2 = 1) = lf := ⟨_, rfl⟩
 obtain ⟨tp, htp⟩ : ∃ tp, decide (f / 32 % 2 = 1) = tp := ⟨_, rfl⟩
 rw [hal, hlf, htp] at hv
 have HHV := Lib.hid hv
 have HAL := Lib.hid hal
 have HLT := Lib.hid (And.intro hlf htp)
 have R0 : Blk (w.alloc (.cells #[.int .i64 0, .int .i64 0, .int .i64 0, .int .i64 0, .int .i64 0, .int .i64 0, .int .i64 0, .int .i64 0, .int .i64 0, .int .i64 0, .bool false, .bool false, .int .i64 0, .int .i64 0] 133)) w.heap.size 133 #[.int .i64 0, .int .i64 0, .int .i64 0, .int .i64 0, .int .i64 0, .int .i64 0, .int .i64 0, .int .i64 0, .int .i64 0, .int .i64 0, .bool false, .bool false, .int .i64 0, .int .i64 0] := Blk.new _ _ _
 have B0 : Below w.heap.size w (w.alloc (.cells #[.int .i64 0, .int .i64 0, .int .i64 0, .int .i64 0, .int .i64 0, .int .i64 0, .int .i64 0, .int .i64 0, .int .i64 0, .int .i64 0, .bool false, .bool false, .int .i64 0, .int .i64 0] 133)) := (Below.refl _ _).alloc (Nat.le_refl _) _
 have hsI : (s.size : Int) ≤ 9223372036854775807 := by omega
 clear hv hlf htp
 have hI : ¬ (s.size : Int) < 18 := by omega
 replace HF := Lib.hid (HF.out.trans (if_neg h18))
 have HS18 := Lib.hid h18
 rw [e1, e2] at hskip
 rw [e1] at hmm
 have HSK := Lib.hid hskip
 have HMM := Lib.hid hmm
 clear hskip hmm
 rw [e7, e5, eW, eH] at hbad
 have HBD := Lib.hid hbad
 clear hbad
 have n0 : 0 < s.size := by omega
 have i0 : (0 : Int) < (s.size : Int) := by omega
 have g0 : s[0].toNat = n := by rw [← bat_eq n0]; exact e0
 have n1 : 1 < s.size := by omega
 have i1 : (1 : Int) < (s.size : Int) := by omega
 have g1 : s[1].toNat = m := by rw [← bat_eq n1]; exact e1
 have n2 : 2 < s.size := by omega
 have i2 : (2 : Int) < (s.size : Int) := by omega
 have g2 : s[2].toNat = t := by rw [← bat_eq n2]; exact e2
 have n7 : 7 < s.size := by omega
 have i7 : (7 : Int) < (s.size : Int) := by omega
 have g7 : s[7].toNat = en := by rw [← bat_eq n7]; exact e7
 have n16 : 16 < s.size := by omega
 have i16 : (16 : Int) < (s.size : Int) := by omega
 have g16 : s[16].toNat = d := by rw [← bat_eq n16]; exact e16
 have n17 : 17 < s.size := by omega
 have i17 : (17 : Int) < (s.size : Int) := by omega
 have g17 : s[17].toNat = f := by rw [← bat_eq n17]; exact e17
 have l5 : (5 : Int) ≤ (s.size : Int) := by omega
 have p5 : 5 ≤ s.size := by omega
 have l7 : (7 : Int) ≤ (s.size : Int) := by omega
 have p7 : 7 ≤ s.size := by omega
 have l14 : (14 : Int) ≤ (s.size : Int) := by omega
 have p14 : 14 ≤ s.size := by omega
 have l16 : (16 : Int) ≤ (s.size : Int) := by omega
 have p16 : 16 ≤ s.size := by omega
 have wrn : IntKind.i64.wrap (n : Int) = (n : Int) := IntWalk.i64_in _ (by omega)
 have bnI : (n : Int) < 256 := by omega
 have wrm : IntKind.i64.wrap (m : Int) = (m : Int) := IntWalk.i64_in _ (by omega)
 have bmI : (m : Int) < 256 := by omega
 have wrt : IntKind.i64.wrap (t : Int) = (t : Int) := IntWalk.i64_in _ (by omega)
 have btI : (t : Int) < 256 := by omega
 have wren : IntKind.i64.wrap (en : Int) = (en : Int) := IntWalk.i64_in _ (by omega)
 have benI : (en : Int) < 256 := by omega
 have wrd : IntKind.i64.wrap (d : Int) = (d : Int) := IntWalk.i64_in _ (by omega)
 have bdI : (d : Int) < 256 := by omega
 have wrf : IntKind.i64.wrap (f : Int) = (f : Int) := IntWalk.i64_in _ (by omega)
 have bfI : (f : Int) < 256 := by omega
 have HW3 := Lib.hid (fun w => refLeT (s := s) (a := 3) (by omega) e3 w)
 have HW5 := Lib.hid (fun w => refLeT (s := s) (a := 5) (by omega) e5 w)
 have HW12 := Lib.hid (fun w => refLeT (s := s) (a := 12) (by omega) eW w)
 have HW14 := Lib.hid (fun w => refLeT (s := s) (a := 14) (by omega) eH w)
 have HCE := Lib.hid (fun w => refTgaCol en w)
 have HCD := Lib.hid (fun w => refTgaCol d w)
 have halI : (f : Int) % 16 = (al : Int) := by omega
 have halT : (f : Int).tmod 16 = (al : Int) := by rw [Int.tmod_eq_emod_of_nonneg (by omega)]; exact halI
 have hlfT : (((f : Int).tdiv 16).tmod 2 == 1) = lf := by rw [← HLT.out.1, Int.tdiv_eq_ediv_of_nonneg (by omega), Int.tmod_eq_emod_of_nonneg (by omega), Bool.eq_iff_iff, beq_iff_eq, decide_eq_true_iff]; omega
 have hlfI : ((f : Int) / 16 % 2 == 1) = lf := by rw [← HLT.out.1, Bool.eq_iff_iff, beq_iff_eq, decide_eq_true_iff]; omega
 have htpT : (((f : Int).tdiv 32).tmod 2 == 1) = tp := by rw [← HLT.out.2, Int.tdiv_eq_ediv_of_nonneg (by omega), Int.tmod_eq_emod_of_nonneg (by omega), Bool.eq_iff_iff, beq_iff_eq, decide_eq_true_iff]; omega
 have htpI : ((f : Int) / 32 % 2 == 1) = tp := by rw [← HLT.out.2, Bool.eq_iff_iff, beq_iff_eq, decide_eq_true_iff]; omega
 clear e0 e1 e2 e3 e5 e7 eW eH e16 e17 h18 hal bn bm bt be bd bf
 go_enter Tryz.func72, Tryz.ntmps72
 go_upto_region 1 with fail
 generalize w.alloc (.cells #[.int .i64 0, .int .i64 0, .int .i64 0, .int .i64 0, .int .i64 0, .int .i64 0, .int .i64 0, .int .i64 0, .int .i64 0, .int .i64 0, .bool false, .bool false, .int .i64 0, .int .i64 0] 133) = w1 at R0 B0 ⊢
 go_upto_region 4 with fail
 by_cases hc : 1 < m
 ·exact (HSK.out (.inl hc)).elim
 have x1 : ¬ (1 : Int) < (m : Int) := by omega
 replace HF := Lib.hid (HF.out.trans (if_neg hc))
 have HN21 := Lib.hid hc
 clear hc
 go_upto_region 6 with (first | fail)
 have HM1 := HN21
 clear x1
 obtain ⟨kb, hkb⟩ : ∃ kb, (!decide (TgaKnown t)) = kb := ⟨_, rfl⟩
 have HKB := Lib.hid hkb
 clear hkb
 go_cut [40] from 19 to 40 (fun c40 wx => c40 = .bool kb ∧ wx = w1)
 case first =>
  by_cases h1 : t = 1
  ·have x1 : ((t : Int) != 1) = false := by rw [h1]; rfl
   have HE : Hid (decide (TgaKnown t) = true) := Lib.hid (by rw [h1]; rfl)
   clear h1
   go_wp2_with fail
   go_meet
   case rel => exact ⟨by rw [← HKB.out, HE.out]; rfl, rfl⟩
  have x1 : ((t : Int) != 1) = true := bne_iff_ne.2 (by omega)
  by_cases h2 : t = 2
  ·have x2 : ((t : Int) != 2) = false := by rw [h2]; rfl
   have HE : Hid (decide (TgaKnown t) = true) := Lib.hid (by rw [h2]; rfl)
   clear h2 h1
   go_wp2_with fail
   go_meet
   case rel => exact ⟨by rw [← HKB.out, HE.out]; rfl, rfl⟩
  have x2 : ((t : Int) != 2) = true := bne_iff_ne.2 (by omega)
  by_cases h3 : t = 3
  ·have x3 : ((t : Int) != 3) = false := by rw [h3]; rfl
   have HE : Hid (decide (TgaKnown t) = true) := Lib.hid (by rw [h3]; rfl)
   clear h3 h1 h2
   go_wp2_with fail
   go_meet
   case rel => exact ⟨by rw [← HKB.out, HE.out]; rfl, rfl⟩
  have x3 : ((t : Int) != 3) = true := bne_iff_ne.2 (by omega)
  by_cases h9 : t = 9
  ·have x9 : ((t : Int) != 9) = false := by rw [h9]; rfl
   have HE : Hid (decide (TgaKnown t) = true) := Lib.hid (by rw [h9]; rfl)
   clear h9 h1 h2 h3
   go_wp2_with fail
   go_meet
   case rel => exact ⟨by rw [← HKB.out, HE.out]; rfl, rfl⟩
  have x9 : ((t : Int) != 9) = true := bne_iff_ne.2 (by omega)
  by_cases h10 : t = 10
  ·have x10 : ((t : Int) != 10) = false := by rw [h10]; rfl
   have HE : Hid (decide (TgaKnown t) = true) := Lib.hid (by rw [h10]; rfl)
   clear h10 h1 h2 h3 h9
   go_wp2_with fail
   go_meet
   case rel => exact ⟨by rw [← HKB.out, HE.out]; rfl, rfl⟩
  have x10 : ((t : Int) != 10) = true := bne_iff_ne.2 (by omega)
  by_cases h11 : t = 11
  ·have x11 : ((t : Int) != 11) = false := by rw [h11]; rfl
   have HE : Hid (decide (TgaKnown t) = true) := Lib.hid (by rw [h11]; rfl)
   clear h11 h1 h2 h3 h9 h10
   go_wp2_with fail
   go_meet
   case rel => exact ⟨by rw [← HKB.out, HE.out]; rfl, rfl⟩
  have x11 : ((t : Int) != 11) = true := bne_iff_ne.2 (by omega)
  have HE := Lib.hid (decide_eq_false (p := TgaKnown t) (by unfold TgaKnown TgaPacked; omega))
  clear h1 h2 h3 h9 h10 h11
  go_wp2_with fail
  go_meet
  case rel => exact ⟨by rw [← HKB.out, HE.out]; rfl, rfl⟩
 case rest =>
  obtain ⟨rfl, rfl⟩ := hcut
  by_cases hc : ¬ TgaKnown t
  ·exact (HSK.out (.inr (.inl hc))).elim
  obtain rfl : kb = false := by rw [← HKB.out, decide_eq_true (Classical.not_not.1 hc)]; rfl
  replace HF := Lib.hid (HF.out.trans (if_neg hc))
  have HN32 := Lib.hid hc
  clear hc
  go_upto_region 8 with (first | fail)
  have HKN := Lib.hid (Classical.not_not.1 HN32.out)
  obtain ⟨mb, hmb⟩ : ∃ mb, decide (tgaPlain t = 1 ∧ m ≠ 1) = mb := ⟨_, rfl⟩
  have HMB := Lib.hid hmb
  clear hmb
  go_cut [52] from 42 to 52 (fun c52 wx => c52 = .bool mb ∧ wx = wc)
  case first =>
   by_cases h1 : t = 1
   ·have x1 : ((t : Int) == 1) = true := by rw [h1]; rfl
    have hp : tgaPlain t = 1 := by rw [h1]; rfl
    have y1 : ((m : Int) == 0) = decide (tgaPlain t = 1 ∧ m ≠ 1) := by have := HM1.out; rw [Bool.eq_iff_iff, beq_iff_eq, decide_eq_true_iff]; exact ⟨fun h => ⟨hp, by omega⟩, fun h => by omega⟩
    have Y := Lib.hid y1
    clear hp y1 h1
    go_wp2_with fail
    all_goals go_meet
    all_goals exact ⟨by rw [← HMB.out, ← Y.out], rfl⟩
   have x1 : ((t : Int) == 1) = false := beq_eq_false_iff_ne.2 (by omega)
   by_cases h9 : t = 9
   ·have x9 : ((t : Int) == 9) = true := by rw [h9]; rfl
    have hp : tgaPlain t = 1 := by rw [h9]; rfl
    have y1 : ((m : Int) == 0) = decide (tgaPlain t = 1 ∧ m ≠ 1) := by have := HM1.out; rw [Bool.eq_iff_iff, beq_iff_eq, decide_eq_true_iff]; exact ⟨fun h => ⟨hp, by omega⟩, fun h => by omega⟩
    have Y := Lib.hid y1
    clear hp y1 h9 h1
    go_wp2_with fail
    all_goals go_meet
    all_goals exact ⟨by rw [← HMB.out, ← Y.out], rfl⟩
   have x9 : ((t : Int) == 9) = false := beq_eq_false_iff_ne.2 (by omega)
   have HE : decide (tgaPlain t = 1 ∧ m ≠ 1) = false := decide_eq_false (fun e => by have h2 := e.1; unfold tgaPlain at h2; by_cases hp : TgaPacked t; rw [if_pos hp] at h2; unfold TgaPacked at hp; omega; rw [if_neg hp] at h2; omega)
   have HF2 := Lib.hid HE
   clear HE h1 h9
   go_wp2_with fail
   go_meet
   case rel => exact ⟨by rw [← HMB.out, HF2.out], rfl⟩
  case rest =>
   obtain ⟨rfl, rfl⟩ := hcut
   by_cases hc : tgaPlain t = 1 ∧ m ≠ 1
   ·exact (HSK.out (.inr (.inr hc))).elim
   obtain rfl : mb = false := by rw [← HMB.out]; exact decide_eq_false hc
   replace HF := Lib.hid (HF.out.trans (if_neg hc))
   have HN21 := Lib.hid hc
   clear hc
   go_upto_region 10 with (first | fail)
   have R1 := Blk.drew R0
   have B1 := B0.drew
   refine wp_region_held_drew (S := (fun _ => True)) (by kernel_rfl) trivial (fun hHeld => ?_)
   generalize wc.drew = w1 at R1 B1 hHeld ⊢
   refine tk 0 ?_
   (try simp only [sps])
   refine tk 1 ?_
   (try simp only [sps])
   refine tk 2 ?_
   (try simp only [sps])
   refine tk 3 ?_
   (try simp only [sps])
   refine tk 4 ?_
   (try simp only [sps])
   refine tk 5 ?_
   (try simp only [sps])
   refine tk 6 ?_
   (try simp only [sps])
   refine tk 7 ?_
   (try simp only [sps])
   refine rdy 8 (fun K hK => ?_)
   go_simp
   have R80 := Blk.alloc R1 (.cells #[.int .i64 0, .int .i64 0, .int .i64 0, .int .i64 0, .int .i64 0, .int .i64 0, .int .i64 0, .int .i64 0, .int .i64 0, .int .i64 0, .bool false, .bool false, .int .i64 0, .int .i64 0] 133)
   have B80 := B1.alloc (by have := Blk.lt R1; omega) (.cells #[.int .i64 0, .int .i64 0, .int .i64 0, .int .i64 0, .int .i64 0, .int .i64 0, .int .i64 0, .int .i64 0, .int .i64 0, .int .i64 0, .bool false, .bool false, .int .i64 0, .int .i64 0] 133)
   have N80 : Blk (w1.alloc (.cells #[.int .i64 0, .int .i64 0, .int .i64 0, .int .i64 0, .int .i64 0, .int .i64 0, .int .i64 0, .int .i64 0, .int .i64 0, .int .i64 0, .bool false, .bool false, .int .i64 0, .int .i64 0] 133)) w1.heap.size 133 #[.int .i64 0, .int .i64 0, .int .i64 0, .int .i64 0, .int .i64 0, .int .i64 0, .int .i64 0, .int .i64 0, .int .i64 0, .int .i64 0, .bool false, .bool false, .int .i64 0, .int .i64 0] := Blk.new _ _ _
   have hq : w.heap.size < w1.heap.size := Blk.lt R1
   generalize w1.alloc (.cells #[.int .i64 0, .int .i64 0, .int .i64 0, .int .i64 0, .int .i64 0, .int .i64 0, .int .i64 0, .int .i64 0, .int .i64 0, .int .i64 0, .bool false, .bool false, .int .i64 0, .int .i64 0] 133) = w80 at R80 B80 N80 ⊢
   generalize w1.heap.size = q at N80 hq ⊢
   refine hK.out _ _ trivial ?_
   clear hK K hHeld
   intro hHeld
   (try simp only [sps])
   have u0 := Blk.cell N80 0
   have y0 := Blk.frozen N80 0
   have u1 := Blk.cell N80 1
   have y1 := Blk.frozen N80 1
   have u2 := Blk.cell N80 2
   have y2 := Blk.frozen N80 2
   have u3 := Blk.cell N80 3
   have y3 := Blk.frozen N80 3
   have u4 := Blk.cell N80 4
   have y4 := Blk.frozen N80 4
   have u5 := Blk.cell N80 5
   have y5 := Blk.frozen N80 5
   have u6 := Blk.cell N80 6
   have y6 := Blk.frozen N80 6
   have u7 := Blk.cell N80 7
   have y7 := Blk.frozen N80 7
   have u8 := Blk.cell N80 8
   have y8 := Blk.frozen N80 8
   have u9 := Blk.cell N80 9
   have y9 := Blk.frozen N80 9
   have u10 := Blk.cell N80 10
   have y10 := Blk.frozen N80 10
   have u11 := Blk.cell N80 11
   have y11 := Blk.frozen N80 11
   have u12 := Blk.cell N80 12
   have y12 := Blk.frozen N80 12
   have u13 := Blk.cell N80 13
   have y13 := Blk.frozen N80 13
   have ul := Blk.lt N80
   refine rdy 9 (fun K hK => ?_)
   go_simp
   have R81 : Blk (((((((((((((((w80).setCell ⟨q, 0, none⟩ (.int .i64 (n : Int))).setCell ⟨q, 1, none⟩ (.int .i64 (m : Int))).setCell ⟨q, 2, none⟩ (.int .i64 (t : Int))).setCell ⟨q, 3, none⟩ (.int .i64 0)).setCell ⟨q, 4, none⟩ (.int .i64 0)).setCell ⟨q, 5, none⟩ (.int .i64 0)).setCell ⟨q, 6, none⟩ (.int .i64 0)).setCell ⟨q, 7, none⟩ (.int .i64 0)).setCell ⟨q, 8, none⟩ (.int .i64 0)).setCell ⟨q, 9, none⟩ (.int .i64 0)).setCell ⟨q, 10, none⟩ (.bool false)).setCell ⟨q, 11, none⟩ (.bool false)).setCell ⟨q, 12, none⟩ (.int .i64 0)).setCell ⟨q, 13, none⟩ (.int .i64 0)) w.heap.size 133 #[.int .i64 0, .int .i64 0, .int .i64 0, .int .i64 0, .int .i64 0, .int .i64 0, .int .i64 0, .int .i64 0, .int .i64 0, .int .i64 0, .bool false, .bool false, .int .i64 0, .int .i64 0] := Blk.far (Blk.far (Blk.far (Blk.far (Blk.far (Blk.far (Blk.far (Blk.far (Blk.far (Blk.far (Blk.far (Blk.far (Blk.far (Blk.far (R80) (p := ⟨q, 0, none⟩) (Nat.ne_of_lt hq) _) (p := ⟨q, 1, none⟩) (Nat.ne_of_lt hq) _) (p := ⟨q, 2, none⟩) (Nat.ne_of_lt hq) _) (p := ⟨q, 3, none⟩) (Nat.ne_of_lt hq) _) (p := ⟨q, 4, none⟩) (Nat.ne_of_lt hq) _) (p := ⟨q, 5, none⟩) (Nat.ne_of_lt hq) _) (p := ⟨q, 6, none⟩) (Nat.ne_of_lt hq) _) (p := ⟨q, 7, none⟩) (Nat.ne_of_lt hq) _) (p := ⟨q, 8, none⟩) (Nat.ne_of_lt hq) _) (p := ⟨q, 9, none⟩) (Nat.ne_of_lt hq) _) (p := ⟨q, 10, none⟩) (Nat.ne_of_lt hq) _) (p := ⟨q, 11, none⟩) (Nat.ne_of_lt hq) _) (p := ⟨q, 12, none⟩) (Nat.ne_of_lt hq) _) (p := ⟨q, 13, none⟩) (Nat.ne_of_lt hq) _
   have B81 : Below w.heap.size w (((((((((((((((w80).setCell ⟨q, 0, none⟩ (.int .i64 (n : Int))).setCell ⟨q, 1, none⟩ (.int .i64 (m : Int))).setCell ⟨q, 2, none⟩ (.int .i64 (t : Int))).setCell ⟨q, 3, none⟩ (.int .i64 0)).setCell ⟨q, 4, none⟩ (.int .i64 0)).setCell ⟨q, 5, none⟩ (.int .i64 0)).setCell ⟨q, 6, none⟩ (.int .i64 0)).setCell ⟨q, 7, none⟩ (.int .i64 0)).setCell ⟨q, 8, none⟩ (.int .i64 0)).setCell ⟨q, 9, none⟩ (.int .i64 0)).setCell ⟨q, 10, none⟩ (.bool false)).setCell ⟨q, 11, none⟩ (.bool false)).setCell ⟨q, 12, none⟩ (.int .i64 0)).setCell ⟨q, 13, none⟩ (.int .i64 0)) := below_set (below_set (below_set (below_set (below_set (below_set (below_set (below_set (below_set (below_set (below_set (below_set (below_set (below_set (B80) (Nat.le_of_lt hq)) (Nat.le_of_lt hq)) (Nat.le_of_lt hq)) (Nat.le_of_lt hq)) (Nat.le_of_lt hq)) (Nat.le_of_lt hq)) (Nat.le_of_lt hq)) (Nat.le_of_lt hq)) (Nat.le_of_lt hq)) (Nat.le_of_lt hq)) (Nat.le_of_lt hq)) (Nat.le_of_lt hq)) (Nat.le_of_lt hq)) (Nat.le_of_lt hq)
   have N81 : Blk (((((((((((((((w80).setCell ⟨q, 0, none⟩ (.int .i64 (n : Int))).setCell ⟨q, 1, none⟩ (.int .i64 (m : Int))).setCell ⟨q, 2, none⟩ (.int .i64 (t : Int))).setCell ⟨q, 3, none⟩ (.int .i64 0)).setCell ⟨q, 4, none⟩ (.int .i64 0)).setCell ⟨q, 5, none⟩ (.int .i64 0)).setCell ⟨q, 6, none⟩ (.int .i64 0)).setCell ⟨q, 7, none⟩ (.int .i64 0)).setCell ⟨q, 8, none⟩ (.int .i64 0)).setCell ⟨q, 9, none⟩ (.int .i64 0)).setCell ⟨q, 10, none⟩ (.bool false)).setCell ⟨q, 11, none⟩ (.bool false)).setCell ⟨q, 12, none⟩ (.int .i64 0)).setCell ⟨q, 13, none⟩ (.int .i64 0)) q 133 #[.int .i64 (n : Int), .int .i64 (m : Int), .int .i64 (t : Int), .int .i64 0, .int .i64 0, .int .i64 0, .int .i64 0, .int .i64 0, .int .i64 0, .int .i64 0, .bool false, .bool false, .int .i64 0, .int .i64 0] := ((Blk.set_ ((Blk.set_ ((Blk.set_ ((Blk.set_ ((Blk.set_ ((Blk.set_ ((Blk.set_ ((Blk.set_ ((Blk.set_ ((Blk.set_ ((Blk.set_ ((Blk.set_ ((Blk.set_ ((Blk.set_ (N80) 0 _)) 1 _)) 2 _)) 3 _)) 4 _)) 5 _)) 6 _)) 7 _)) 8 _)) 9 _)) 10 _)) 11 _)) 12 _)) 13 _)).eq_ (by simp)
   clear u0 y0 u1 y1 u2 y2 u3 y3 u4 y4 u5 y5 u6 y6 u7 y7 u8 y8 u9 y9 u10 y10 u11 y11 u12 y12 u13 y13 ul
   generalize ((((((((((((((w80).setCell ⟨q, 0, none⟩ (.int .i64 (n : Int))).setCell ⟨q, 1, none⟩ (.int .i64 (m : Int))).setCell ⟨q, 2, none⟩ (.int .i64 (t : Int))).setCell ⟨q, 3, none⟩ (.int .i64 0)).setCell ⟨q, 4, none⟩ (.int .i64 0)).setCell ⟨q, 5, none⟩ (.int .i64 0)).setCell ⟨q, 6, none⟩ (.int .i64 0)).setCell ⟨q, 7, none⟩ (.int .i64 0)).setCell ⟨q, 8, none⟩ (.int .i64 0)).setCell ⟨q, 9, none⟩ (.int .i64 0)).setCell ⟨q, 10, none⟩ (.bool false)).setCell ⟨q, 11, none⟩ (.bool false)).setCell ⟨q, 12, none⟩ (.int .i64 0)).setCell ⟨q, 13, none⟩ (.int .i64 0) = w81 at R81 B81 N81 ⊢
   refine hK.out _ _ trivial ?_
   clear hK K hHeld
   intro hHeld
   (try simp only [sps])
   refine wpAnyH_done (by kernel_rfl) ?_ _
   (try simp only [sps])
   clear hHeld wrn wrm wrt
   go_upto_region 11 with fail
   obtain rfl : m = 1 := HMM.out
   go_upto_region 12 with fail
   have R2 := Blk.drew R81
   have B2 := B81.drew
   have N2 := Blk.drew N81
   refine wp_region_held_drew (S := (fun _ => True)) (by kernel_rfl) trivial (fun hHeld => ?_)
   generalize w81.drew = w2 at R2 B2 N2 hHeld ⊢
   refine tk 0 ?_
   (try simp only [sps])
   refine tk 1 ?_
   (try simp only [sps])
   refine tk 3 ?_
   (try simp only [sps])
   refine tk 4 ?_
   (try simp only [sps])
   refine tk 6 ?_
   (try simp only [sps])
   refine tk 7 ?_
   (try simp only [sps])
   refine tk 8 ?_
   (try simp only [sps])
   refine rdy 2 (fun K hK => ?_)
   go_simp
   refine (HW3.out _).mono ?_
   rintro e wz ⟨rfl, rfl⟩
   refine hK.out _ _ trivial ?_
   clear hK K hHeld
   intro hHeld
   (try simp only [sps])
   refine tk 9 ?_
   (try simp only [sps])
   refine rdy 5 (fun K hK => ?_)
   go_simp
   refine (HW5.out _).mono ?_
   rintro e wz ⟨rfl, rfl⟩
   refine hK.out _ _ trivial ?_
   clear hK K hHeld
   intro hHeld
   (try simp only [sps])
   have u3 := Blk.cell N2 3
   have y3 := Blk.frozen N2 3
   have ul := Blk.lt N2
   refine rdy 10 (fun K hK => ?_)
   go_simp
   have R3 : Blk (w2.setCell ⟨q, 3, none⟩ (.int .i64 (fi : Int))) w.heap.size 133 #[.int .i64 0, .int .i64 0, .int .i64 0, .int .i64 0, .int .i64 0, .int .i64 0, .int .i64 0, .int .i64 0, .int .i64 0, .int .i64 0, .bool false, .bool false, .int .i64 0, .int .i64 0] := Blk.far R2 (p := ⟨q, 3, none⟩) (Nat.ne_of_lt hq) _
   have B3 : Below w.heap.size w (w2.setCell ⟨q, 3, none⟩ (.int .i64 (fi : Int))) := below_set B2 (Nat.le_of_lt hq)
   have N3 : Blk (w2.setCell ⟨q, 3, none⟩ (.int .i64 (fi : Int))) q 133 #[.int .i64 (n : Int), .int .i64 ((1 : Nat) : Int), .int .i64 (t : Int), .int .i64 (fi : Int), .int .i64 0, .int .i64 0, .int .i64 0, .int .i64 0, .int .i64 0, .int .i64 0, .bool false, .bool false, .int .i64 0, .int .i64 0] := (Blk.set_ N2 3 _).eq_ (by simp)
   generalize w2.setCell ⟨q, 3, none⟩ (.int .i64 (fi : Int)) = w3 at R3 B3 N3 ⊢
   clear u3 y3 ul
   refine hK.out _ _ trivial ?_
   clear hK K hHeld
   intro hHeld
   (try simp only [sps])
   refine tk 11 ?_
   (try simp only [sps])
   have u4 := Blk.cell N3 4
   have y4 := Blk.frozen N3 4
   have ul := Blk.lt N3
   refine rdy 12 (fun K hK => ?_)
   go_simp
   have R4 : Blk (w3.setCell ⟨q, 4, none⟩ (.int .i64 (c : Int))) w.heap.size 133 #[.int .i64 0, .int .i64 0, .int .i64 0, .int .i64 0, .int .i64 0, .int .i64 0, .int .i64 0, .int .i64 0, .int .i64 0, .int .i64 0, .bool false, .bool false, .int .i64 0, .int .i64 0] := Blk.far R3 (p := ⟨q, 4, none⟩) (Nat.ne_of_lt hq) _
   have B4 : Below w.heap.size w (w3.setCell ⟨q, 4, none⟩ (.int .i64 (c : Int))) := below_set B3 (Nat.le_of_lt hq)
   have N4 : Blk (w3.setCell ⟨q, 4, none⟩ (.int .i64 (c : Int))) q 133 #[.int .i64 (n : Int), .int .i64 ((1 : Nat) : Int), .int .i64 (t : Int), .int .i64 (fi : Int), .int .i64 (c : Int), .int .i64 0, .int .i64 0, .int .i64 0, .int .i64 0, .int .i64 0, .bool false, .bool false, .int .i64 0, .int .i64 0] := (Blk.set_ N3 4 _).eq_ (by simp)
   generalize w3.setCell ⟨q, 4, none⟩ (.int .i64 (c : Int)) = w4 at R4 B4 N4 ⊢
   clear u4 y4 ul
   refine hK.out _ _ trivial ?_
   clear hK K hHeld
   intro hHeld
   (try simp only [sps])
   refine tk 13 ?_
   (try simp only [sps])
   have u5 := Blk.cell N4 5
   have y5 := Blk.frozen N4 5
   have ul := Blk.lt N4
   refine rdy 14 (fun K hK => ?_)
   go_simp
   have R5 : Blk (w4.setCell ⟨q, 5, none⟩ (.int .i64 (en : Int))) w.heap.size 133 #[.int .i64 0, .int .i64 0, .int .i64 0, .int .i64 0, .int .i64 0, .int .i64 0, .int .i64 0, .int .i64 0, .int .i64 0, .int .i64 0, .bool false, .bool false, .int .i64 0, .int .i64 0] := Blk.far R4 (p := ⟨q, 5, none⟩) (Nat.ne_of_lt hq) _
   have B5 : Below w.heap.size w (w4.setCell ⟨q, 5, none⟩ (.int .i64 (en : Int))) := below_set B4 (Nat.le_of_lt hq)
   have N5 : Blk (w4.setCell ⟨q, 5, none⟩ (.int .i64 (en : Int))) q 133 #[.int .i64 (n : Int), .int .i64 ((1 : Nat) : Int), .int .i64 (t : Int), .int .i64 (fi : Int), .int .i64 (c : Int), .int .i64 (en : Int), .int .i64 0, .int .i64 0, .int .i64 0, .int .i64 0, .bool false, .bool false, .int .i64 0, .int .i64 0] := (Blk.set_ N4 5 _).eq_ (by simp)
   generalize w4.setCell ⟨q, 5, none⟩ (.int .i64 (en : Int)) = w5 at R5 B5 N5 ⊢
   clear u5 y5 ul
   refine hK.out _ _ trivial ?_
   clear hK K hHeld
   intro hHeld
   (try simp only [sps])
   refine wpAnyH_done (by kernel_rfl) ?_ _
   (try simp only [sps])
   clear hHeld
   have k4 : w5.cell? ⟨q, 4, none⟩ = some (.int .i64 (c : Int)) := Blk.cell N5 4
   have k5 : w5.cell? ⟨q, 5, none⟩ = some (.int .i64 (en : Int)) := Blk.cell N5 5
   have kl := Blk.lt N5
   go_upto_region 13 with fail
   by_cases hc : 1 = 1 ∧ ¬ TgaCol en
   ·have x5 : decide (TgaCol en) = false := decide_eq_false hc.2
    have HC := Lib.hid hc
    clear hc
    go_wp2_with (first | (go_at_call 123; refine (refTgaBad _ _ _).mono ?_; unfold tRdV; rintro e wb ⟨rfl, bb⟩; have R9 := Blk.below R5 bb (Blk.lt R5); have B9 := below_next B5 bb; have r0 := Blk.cell R9 0; have z0 := Blk.frozen R9 0; have r1 := Blk.cell R9 1; have z1 := Blk.frozen R9 1; have r2 := Blk.cell R9 2; have z2 := Blk.frozen R9 2; have r3 := Blk.cell R9 3; have z3 := Blk.frozen R9 3; have r4 := Blk.cell R9 4; have z4 := Blk.frozen R9 4; have r5 := Blk.cell R9 5; have z5 := Blk.frozen R9 5; have r6 := Blk.cell R9 6; have z6 := Blk.frozen R9 6; have r7 := Blk.cell R9 7; have z7 := Blk.frozen R9 7; have r8 := Blk.cell R9 8; have z8 := Blk.frozen R9 8; have r9 := Blk.cell R9 9; have z9 := Blk.frozen R9 9; have r10 := Blk.cell R9 10; have z10 := Blk.frozen R9 10; have r11 := Blk.cell R9 11; have z11 := Blk.frozen R9 11; have r12 := Blk.cell R9 12; have z12 := Blk.frozen R9 12; have r13 := Blk.cell R9 13; have z13 := Blk.frozen R9 13; have rl := Blk.lt R9) | (go_at_call 124; refine (HCE.out _).mono ?_; rintro e wz ⟨rfl, rfl⟩))
    exact bodyPost_ret (v := tRdV 0 0 0 0 0 0 0 0 0 0 false false 3 7) (ret35 rfl R9 rfl _ _ _ _ _ _ _ _ _ _ _ _ _ _) rfl ⟨congrArg Ending.returned (tgaRdV_some (HF.out.trans (if_pos HC.out))).symm, Below.st14 B9 (Nat.le_refl _)⟩
   have x5 : decide (TgaCol en) = true := decide_eq_true (Classical.not_not.1 (fun e => hc ⟨rfl, e⟩))
   replace HF := Lib.hid (HF.out.trans (if_neg hc))
   have HN37 := Lib.hid hc
   clear hc
   go_upto_region 15 with (first | fail | (go_at_call 124; refine (HCE.out _).mono ?_; rintro e wz ⟨rfl, rfl⟩))
   by_cases hc : c = 0
   ·have x6 : (c : Int) = 0 := by omega
    have HC := Lib.hid hc
    clear hc
    go_wp2_with (first | (go_at_call 123; refine (refTgaBad _ _ _).mono ?_; unfold tRdV; rintro e wb ⟨rfl, bb⟩; have R9 := Blk.below R5 bb (Blk.lt R5); have B9 := below_next B5 bb; have r0 := Blk.cell R9 0; have z0 := Blk.frozen R9 0; have r1 := Blk.cell R9 1; have z1 := Blk.frozen R9 1; have r2 := Blk.cell R9 2; have z2 := Blk.frozen R9 2; have r3 := Blk.cell R9 3; have z3 := Blk.frozen R9 3; have r4 := Blk.cell R9 4; have z4 := Blk.frozen R9 4; have r5 := Blk.cell R9 5; have z5 := Blk.frozen R9 5; have r6 := Blk.cell R9 6; have z6 := Blk.frozen R9 6; have r7 := Blk.cell R9 7; have z7 := Blk.frozen R9 7; have r8 := Blk.cell R9 8; have z8 := Blk.frozen R9 8; have r9 := Blk.cell R9 9; have z9 := Blk.frozen R9 9; have r10 := Blk.cell R9 10; have z10 := Blk.frozen R9 10; have r11 := Blk.cell R9 11; have z11 := Blk.frozen R9 11; have r12 := Blk.cell R9 12; have z12 := Blk.frozen R9 12; have r13 := Blk.cell R9 13; have z13 := Blk.frozen R9 13; have rl := Blk.lt R9))
    exact bodyPost_ret (v := tRdV 0 0 0 0 0 0 0 0 0 0 false false 2 5) (ret35 rfl R9 rfl _ _ _ _ _ _ _ _ _ _ _ _ _ _) rfl ⟨congrArg Ending.returned (tgaRdV_some (HF.out.trans (if_pos (by first | exact ⟨trivial, HC.out⟩ | exact ⟨rfl, HC.out⟩)))).symm, Below.st14 B9 (Nat.le_refl _)⟩
   have x6 : ¬ (c : Int) = 0 := by omega
   replace HF := Lib.hid (HF.out.trans (if_neg (fun e => hc e.2)))
   have HN25 := Lib.hid hc
   clear hc
   go_upto_region 17 with fail
   clear x5 x6 k4 k5 kl
   have R6 := Blk.drew R5
   have B6 := B5.drew
   have N6 := Blk.drew N5
   refine wp_region_held_drew (S := (fun _ => True)) (by kernel_rfl) trivial (fun hHeld => ?_)
   generalize w5.drew = w6 at R6 B6 N6 hHeld ⊢
   refine tk 0 ?_
   (try simp only [sps])
   refine tk 1 ?_
   (try simp only [sps])
   refine tk 3 ?_
   (try simp only [sps])
   refine tk 4 ?_
   (try simp only [sps])
   refine rdy 2 (fun K hK => ?_)
   go_simp
   refine (HW12.out _).mono ?_
   rintro e wz ⟨rfl, rfl⟩
   refine hK.out _ _ trivial ?_
   clear hK K hHeld
   intro hHeld
   (try simp only [sps])
   refine tk 6 ?_
   (try simp only [sps])
   refine rdy 5 (fun K hK => ?_)
   go_simp
   refine (HW14.out _).mono ?_
   rintro e wz ⟨rfl, rfl⟩
   refine hK.out _ _ trivial ?_
   clear hK K hHeld
   intro hHeld
   (try simp only [sps])
   have u6 := Blk.cell N6 6
   have y6 := Blk.frozen N6 6
   have ul := Blk.lt N6
   refine rdy 7 (fun K hK => ?_)
   go_simp
   have R7 : Blk (w6.setCell ⟨q, 6, none⟩ (.int .i64 (W : Int))) w.heap.size 133 #[.int .i64 0, .int .i64 0, .int .i64 0, .int .i64 0, .int .i64 0, .int .i64 0, .int .i64 0, .int .i64 0, .int .i64 0, .int .i64 0, .bool false, .bool false, .int .i64 0, .int .i64 0] := Blk.far R6 (p := ⟨q, 6, none⟩) (Nat.ne_of_lt hq) _
   have B7 : Below w.heap.size w (w6.setCell ⟨q, 6, none⟩ (.int .i64 (W : Int))) := below_set B6 (Nat.le_of_lt hq)
   have N7 : Blk (w6.setCell ⟨q, 6, none⟩ (.int .i64 (W : Int))) q 133 #[.int .i64 (n : Int), .int .i64 ((1 : Nat) : Int), .int .i64 (t : Int), .int .i64 (fi : Int), .int .i64 (c : Int), .int .i64 (en : Int), .int .i64 (W : Int), .int .i64 0, .int .i64 0, .int .i64 0, .bool false, .bool false, .int .i64 0, .int .i64 0] := (Blk.set_ N6 6 _).eq_ (by simp)
   generalize w6.setCell ⟨q, 6, none⟩ (.int .i64 (W : Int)) = w7 at R7 B7 N7 ⊢
   clear u6 y6 ul
   refine hK.out _ _ trivial ?_
   clear hK K hHeld
   intro hHeld
   (try simp only [sps])
   refine tk 8 ?_
   (try simp only [sps])
   have u7 := Blk.cell N7 7
   have y7 := Blk.frozen N7 7
   have ul := Blk.lt N7
   refine rdy 9 (fun K hK => ?_)
   go_simp
   have R8 : Blk (w7.setCell ⟨q, 7, none⟩ (.int .i64 (H : Int))) w.heap.size 133 #[.int .i64 0, .int .i64 0, .int .i64 0, .int .i64 0, .int .i64 0, .int .i64 0, .int .i64 0, .int .i64 0, .int .i64 0, .int .i64 0, .bool false, .bool false, .int .i64 0, .int .i64 0] := Blk.far R7 (p := ⟨q, 7, none⟩) (Nat.ne_of_lt hq) _
   have B8 : Below w.heap.size w (w7.setCell ⟨q, 7, none⟩ (.int .i64 (H : Int))) := below_set B7 (Nat.le_of_lt hq)
   have N8 : Blk (w7.setCell ⟨q, 7, none⟩ (.int .i64 (H : Int))) q 133 #[.int .i64 (n : Int), .int .i64 ((1 : Nat) : Int), .int .i64 (t : Int), .int .i64 (fi : Int), .int .i64 (c : Int), .int .i64 (en : Int), .int .i64 (W : Int), .int .i64 (H : Int), .int .i64 0, .int .i64 0, .bool false, .bool false, .int .i64 0, .int .i64 0] := (Blk.set_ N7 7 _).eq_ (by simp)
   generalize w7.setCell ⟨q, 7, none⟩ (.int .i64 (H : Int)) = w8 at R8 B8 N8 ⊢
   clear u7 y7 ul
   refine hK.out _ _ trivial ?_
   clear hK K hHeld
   intro hHeld
   (try simp only [sps])
   refine wpAnyH_done (by kernel_rfl) ?_ _
   (try simp only [sps])
   clear hHeld
   have k6 : w8.cell? ⟨q, 6, none⟩ = some (.int .i64 (W : Int)) := Blk.cell N8 6
   have k7 : w8.cell? ⟨q, 7, none⟩ = some (.int .i64 (H : Int)) := Blk.cell N8 7
   have kl := Blk.lt N8
   go_upto_region 18 with fail
   by_cases hc : W = 0
   ·have x1 : (W : Int) = 0 := by omega
    have HC := Lib.hid hc
    clear hc
    go_wp2_with (first | (go_at_call 123; refine (refTgaBad _ _ _).mono ?_; unfold tRdV; rintro e wb ⟨rfl, bb⟩; have R9 := Blk.below R8 bb (Blk.lt R8); have B9 := below_next B8 bb; have r0 := Blk.cell R9 0; have z0 := Blk.frozen R9 0; have r1 := Blk.cell R9 1; have z1 := Blk.frozen R9 1; have r2 := Blk.cell R9 2; have z2 := Blk.frozen R9 2; have r3 := Blk.cell R9 3; have z3 := Blk.frozen R9 3; have r4 := Blk.cell R9 4; have z4 := Blk.frozen R9 4; have r5 := Blk.cell R9 5; have z5 := Blk.frozen R9 5; have r6 := Blk.cell R9 6; have z6 := Blk.frozen R9 6; have r7 := Blk.cell R9 7; have z7 := Blk.frozen R9 7; have r8 := Blk.cell R9 8; have z8 := Blk.frozen R9 8; have r9 := Blk.cell R9 9; have z9 := Blk.frozen R9 9; have r10 := Blk.cell R9 10; have z10 := Blk.frozen R9 10; have r11 := Blk.cell R9 11; have z11 := Blk.frozen R9 11; have r12 := Blk.cell R9 12; have z12 := Blk.frozen R9 12; have r13 := Blk.cell R9 13; have z13 := Blk.frozen R9 13; have rl := Blk.lt R9))
    exact bodyPost_ret (v := tRdV 0 0 0 0 0 0 0 0 0 0 false false 2 12) (ret35 rfl R9 rfl _ _ _ _ _ _ _ _ _ _ _ _ _ _) rfl ⟨congrArg Ending.returned (tgaRdV_some (HF.out.trans (if_pos HC.out))).symm, Below.st14 B9 (Nat.le_refl _)⟩
   have x1 : ¬ (W : Int) = 0 := by omega
   replace HF := Lib.hid (HF.out.trans (if_neg hc))
   have HN212 := Lib.hid hc
   clear hc
   go_upto_region 20 with fail
   by_cases hc : 16384 < W
   ·have x2 : (16384 : Int) < (W : Int) := by omega
    have HC := Lib.hid hc
    clear hc
    go_wp2_with (first | (go_at_call 123; refine (refTgaBad _ _ _).mono ?_; unfold tRdV; rintro e wb ⟨rfl, bb⟩; have R9 := Blk.below R8 bb (Blk.lt R8); have B9 := below_next B8 bb; have r0 := Blk.cell R9 0; have z0 := Blk.frozen R9 0; have r1 := Blk.cell R9 1; have z1 := Blk.frozen R9 1; have r2 := Blk.cell R9 2; have z2 := Blk.frozen R9 2; have r3 := Blk.cell R9 3; have z3 := Blk.frozen R9 3; have r4 := Blk.cell R9 4; have z4 := Blk.frozen R9 4; have r5 := Blk.cell R9 5; have z5 := Blk.frozen R9 5; have r6 := Blk.cell R9 6; have z6 := Blk.frozen R9 6; have r7 := Blk.cell R9 7; have z7 := Blk.frozen R9 7; have r8 := Blk.cell R9 8; have z8 := Blk.frozen R9 8; have r9 := Blk.cell R9 9; have z9 := Blk.frozen R9 9; have r10 := Blk.cell R9 10; have z10 := Blk.frozen R9 10; have r11 := Blk.cell R9 11; have z11 := Blk.frozen R9 11; have r12 := Blk.cell R9 12; have z12 := Blk.frozen R9 12; have r13 := Blk.cell R9 13; have z13 := Blk.frozen R9 13; have rl := Blk.lt R9))
    exact bodyPost_ret (v := tRdV 0 0 0 0 0 0 0 0 0 0 false false 3 12) (ret35 rfl R9 rfl _ _ _ _ _ _ _ _ _ _ _ _ _ _) rfl ⟨congrArg Ending.returned (tgaRdV_some (HF.out.trans (if_pos HC.out))).symm, Below.st14 B9 (Nat.le_refl _)⟩
   have x2 : ¬ (16384 : Int) < (W : Int) := by omega
   replace HF := Lib.hid (HF.out.trans (if_neg hc))
   have HN312 := Lib.hid hc
   clear hc
   go_upto_region 22 with fail
   by_cases hc : H = 0
   ·have x3 : (H : Int) = 0 := by omega
    have HC := Lib.hid hc
    clear hc
    go_wp2_with (first | (go_at_call 123; refine (refTgaBad _ _ _).mono ?_; unfold tRdV; rintro e wb ⟨rfl, bb⟩; have R9 := Blk.below R8 bb (Blk.lt R8); have B9 := below_next B8 bb; have r0 := Blk.cell R9 0; have z0 := Blk.frozen R9 0; have r1 := Blk.cell R9 1; have z1 := Blk.frozen R9 1; have r2 := Blk.cell R9 2; have z2 := Blk.frozen R9 2; have r3 := Blk.cell R9 3; have z3 := Blk.frozen R9 3; have r4 := Blk.cell R9 4; have z4 := Blk.frozen R9 4; have r5 := Blk.cell R9 5; have z5 := Blk.frozen R9 5; have r6 := Blk.cell R9 6; have z6 := Blk.frozen R9 6; have r7 := Blk.cell R9 7; have z7 := Blk.frozen R9 7; have r8 := Blk.cell R9 8; have z8 := Blk.frozen R9 8; have r9 := Blk.cell R9 9; have z9 := Blk.frozen R9 9; have r10 := Blk.cell R9 10; have z10 := Blk.frozen R9 10; have r11 := Blk.cell R9 11; have z11 := Blk.frozen R9 11; have r12 := Blk.cell R9 12; have z12 := Blk.frozen R9 12; have r13 := Blk.cell R9 13; have z13 := Blk.frozen R9 13; have rl := Blk.lt R9))
    exact bodyPost_ret (v := tRdV 0 0 0 0 0 0 0 0 0 0 false false 2 14) (ret35 rfl R9 rfl _ _ _ _ _ _ _ _ _ _ _ _ _ _) rfl ⟨congrArg Ending.returned (tgaRdV_some (HF.out.trans (if_pos HC.out))).symm, Below.st14 B9 (Nat.le_refl _)⟩
   have x3 : ¬ (H : Int) = 0 := by omega
   replace HF := Lib.hid (HF.out.trans (if_neg hc))
   have HN214 := Lib.hid hc
   clear hc
   go_upto_region 24 with fail
   by_cases hc : 16384 < H
   ·have x4 : (16384 : Int) < (H : Int) := by omega
    have HC := Lib.hid hc
    clear hc
    go_wp2_with (first | (go_at_call 123; refine (refTgaBad _ _ _).mono ?_; unfold tRdV; rintro e wb ⟨rfl, bb⟩; have R9 := Blk.below R8 bb (Blk.lt R8); have B9 := below_next B8 bb; have r0 := Blk.cell R9 0; have z0 := Blk.frozen R9 0; have r1 := Blk.cell R9 1; have z1 := Blk.frozen R9 1; have r2 := Blk.cell R9 2; have z2 := Blk.frozen R9 2; have r3 := Blk.cell R9 3; have z3 := Blk.frozen R9 3; have r4 := Blk.cell R9 4; have z4 := Blk.frozen R9 4; have r5 := Blk.cell R9 5; have z5 := Blk.frozen R9 5; have r6 := Blk.cell R9 6; have z6 := Blk.frozen R9 6; have r7 := Blk.cell R9 7; have z7 := Blk.frozen R9 7; have r8 := Blk.cell R9 8; have z8 := Blk.frozen R9 8; have r9 := Blk.cell R9 9; have z9 := Blk.frozen R9 9; have r10 := Blk.cell R9 10; have z10 := Blk.frozen R9 10; have r11 := Blk.cell R9 11; have z11 := Blk.frozen R9 11; have r12 := Blk.cell R9 12; have z12 := Blk.frozen R9 12; have r13 := Blk.cell R9 13; have z13 := Blk.frozen R9 13; have rl := Blk.lt R9))
    exact bodyPost_ret (v := tRdV 0 0 0 0 0 0 0 0 0 0 false false 3 14) (ret35 rfl R9 rfl _ _ _ _ _ _ _ _ _ _ _ _ _ _) rfl ⟨congrArg Ending.returned (tgaRdV_some (HF.out.trans (if_pos HC.out))).symm, Below.st14 B9 (Nat.le_refl _)⟩
   have x4 : ¬ (16384 : Int) < (H : Int) := by omega
   replace HF := Lib.hid (HF.out.trans (if_neg hc))
   have HN314 := Lib.hid hc
   clear hc
   exact absurd HBD.out (fun e => by rcases e with e | e | e | e | e | e; exact (by first | exact HN37.out ⟨rfl, e⟩ | exact HN37.out ⟨trivial, e⟩); exact HN25.out e; exact HN212.out e; exact HN312.out e; exact HN214.out e; exact HN314.out e)
set_option maxRecDepth 100000 in
set_option maxHeartbeats 8000000 in
theorem refTgaRead_m1l {s : ByteArray} (h18 : ¬ s.size < 18) (hskip : ¬ (1 < bat s 1 ∨ ¬ TgaKnown (bat s 2) ∨ (tgaPlain (bat s 2) = 1 ∧ bat s 1 ≠ 1) ∨ ¬ TgaCol (bat s 7) ∨ le2 s 5 = 0 ∨ le2 s 12 = 0 ∨ 16384 < le2 s 12 ∨ le2 s 14 = 0 ∨ 16384 < le2 s 14)) (hmm : bat s 1 = 1) (hsm : s.size ≤ 9223372036854775807) (w : World) : Calls Tryz.prog 72 #[.string s] w fun e w' => e = .returned (tgaRdV s) ∧ Below w.heap.size w w' := by
 obtain ⟨n, e0⟩ : ∃ x, bat s 0 = x := ⟨_, rfl⟩
 obtain ⟨m, e1⟩ : ∃ x, bat s 1 = x := ⟨_, rfl⟩
 obtain ⟨t, e2⟩ : ∃ x, bat s 2 = x := ⟨_, rfl⟩
 obtain ⟨en, e7⟩ : ∃ x, bat s 7 = x := ⟨_, rfl⟩
 obtain ⟨d, e16⟩ : ∃ x, bat s 16 = x := ⟨_, rfl⟩
 obtain ⟨f, e17⟩ : ∃ x, bat s 17 = x := ⟨_, rfl⟩
 obtain ⟨fi, e3⟩ : ∃ x, le2 s 3 = x := ⟨_, rfl⟩
 obtain ⟨c, e5⟩ : ∃ x, le2 s 5 = x := ⟨_, rfl⟩
 obtain ⟨W, eW⟩ : ∃ x, le2 s 12 = x := ⟨_, rfl⟩
 obtain ⟨H, eH⟩ : ∃ x, le2 s 14 = x := ⟨_, rfl⟩
 have HF := Lib.hid (tgaFault_if e1 e2 e17 e7 e5 eW eH e16)
 have hv : tRV (tgaHd s) = .agg #[.int .i64 (n : Int), .int .i64 (if decide (m = 1) then 1 else 0), .int .i64 (t : Int), .int .i64 (((if m = 1 then fi else 0) : Nat) : Int), .int .i64 (((if m = 1 then c else 0) : Nat) : Int), .int .i64 (((if m = 1 then en else 0) : Nat) : Int), .int .i64 (W : Int), .int .i64 (H : Int), .int .i64 (d : Int), .int .i64 ((f % 16 : Nat) : Int), .bool (decide (f / 16 % 2 = 1)), .bool (decide (f / 32 % 2 = 1)), .int .i64 0, .int .i64 0] := by
  unfold tRV tRdV tgaHd
  rw [e0, e1, e2, e3, e5, e7, eW, eH, e16, e17]
 have bn := bat_lt s 0
 have bm := bat_lt s 1
 have bt := bat_lt s 2
 have be := bat_lt s 7
 have bd := bat_lt s 16
 have bf := bat_lt s 17
 rw [e0] at bn
 rw [e1] at bm
 rw [e2] at bt
 rw [e7] at be
 rw [e16] at bd
 rw [e17] at bf
 obtain ⟨al, hal⟩ : ∃ al, f % 16 = al := ⟨_, rfl⟩
 obtain ⟨lf, hlf⟩ : ∃ lf, decide (f / 16 % 2 = 1) = lf := ⟨_, rfl⟩
 obtain ⟨tp, htp⟩ : ∃ tp, decide (f / 32 % 2 = 1) = tp := ⟨_, rfl⟩
 rw [hal, hlf, htp] at hv
 have HHV := Lib.hid hv
 have HAL := Lib.hid hal
 have HLT := Lib.hid (And.intro hlf htp)
 have R0 : Blk (w.alloc (.cells #[.int .i64 0, .int .i64 0, .int .i64 0, .int .i64 0, .int .i64 0, .int .i64 0, .int .i64 0, .int .i64 0, .int .i64 0, .int .i64 0, .bool false, .bool false, .int .i64 0, .int .i64 0] 133)) w.heap.size 133 #[.int .i64 0, .int .i64 0, .int .i64 0, .int .i64 0, .int .i64 0, .int .i64 0, .int .i64 0, .int .i64 0, .int .i64 0, .int .i64 0, .bool false, .bool false, .int .i64 0, .int .i64 0] := Blk.new _ _ _
 have B0 : Below w.heap.size w (w.alloc (.cells #[.int .i64 0, .int .i64 0, .int .i64 0, .int .i64 0, .int .i64 0, .int .i64 0, .int .i64 0, .int .i64 0, .int .i64 0, .int .i64 0, .bool false, .bool false, .int .i64 0, .int .i64 0] 133)) := (Below.refl _ _).alloc (Nat.le_refl _) _
 have hsI : (s.size : Int) ≤ 9223372036854775807 := by omega
 clear hv hlf htp
 have hI : ¬ (s.size : Int) < 18 := by omega
 replace HF := Lib.hid (HF.out.trans (if_neg h18))
 have HS18 := Lib.hid h18
 rw [e1, e2, e7, e5, eW, eH] at hskip
 rw [e1] at hmm
 have HSK := Lib.hid hskip
 have HMM := Lib.hid hmm
 clear hskip hmm
 have n0 : 0 < s.size := by omega
 have i0 : (0 : Int) < (s.size : Int) := by omega
 have g0 : s[0].toNat = n := by rw [← bat_eq n0]; exact e0
 have n1 : 1 < s.size := by omega
 have i1 : (1 : Int) < (s.size : Int) := by omega
 have g1 : s[1].toNat = m := by rw [← bat_eq n1]; exact e1
 have n2 : 2 < s.size := by omega
 have i2 : (2 : Int) < (s.size : Int) := by omega
 have g2 : s[2].toNat = t := by rw [← bat_eq n2]; exact e2
 have n7 : 7 < s.size := by omega
 have i7 : (7 : Int) < (s.size : Int) := by omega
 have g7 : s[7].toNat = en := by rw [← bat_eq n7]; exact e7
 have n16 : 16 < s.size := by omega
 have i16 : (16 : Int) < (s.size : Int) := by omega
 have g16 : s[16].toNat = d := by rw [← bat_eq n16]; exact e16
 have n17 : 17 < s.size := by omega
 have i17 : (17 : Int) < (s.size : Int) := by omega
 have g17 : s[17].toNat = f := by rw [← bat_eq n17]; exact e17
 have l5 : (5 : Int) ≤ (s.size : Int) := by omega
 have p5 : 5 ≤ s.size := by omega
 have l7 : (7 : Int) ≤ (s.size : Int) := by omega
 have p7 : 7 ≤ s.size := by omega
 have l14 : (14 : Int) ≤ (s.size : Int) := by omega
 have p14 : 14 ≤ s.size := by omega
 have l16 : (16 : Int) ≤ (s.size : Int) := by omega
 have p16 : 16 ≤ s.size := by omega
 have wrn : IntKind.i64.wrap (n : Int) = (n : Int) := IntWalk.i64_in _ (by omega)
 have bnI : (n : Int) < 256 := by omega
 have wrm : IntKind.i64.wrap (m : Int) = (m : Int) := IntWalk.i64_in _ (by omega)
 have bmI : (m : Int) < 256 := by omega
 have wrt : IntKind.i64.wrap (t : Int) = (t : Int) := IntWalk.i64_in _ (by omega)
 have btI : (t : Int) < 256 := by omega
 have wren : IntKind.i64.wrap (en : Int) = (en : Int) := IntWalk.i64_in _ (by omega)
 have benI : (en : Int) < 256 := by omega
 have wrd : IntKind.i64.wrap (d : Int) = (d : Int) := IntWalk.i64_in _ (by omega)
 have bdI : (d : Int) < 256 := by omega
 have wrf : IntKind.i64.wrap (f : Int) = (f : Int) := IntWalk.i64_in _ (by omega)
 have bfI : (f : Int) < 256 := by omega
 have HW3 := Lib.hid (fun w => refLeT (s := s) (a := 3) (by omega) e3 w)
 have HW5 := Lib.hid (fun w => refLeT (s := s) (a := 5) (by omega) e5 w)
 have HW12 := Lib.hid (fun w => refLeT (s := s) (a := 12) (by omega) eW w)
 have HW14 := Lib.hid (fun w => refLeT (s := s) (a := 14) (by omega) eH w)
 have HCE := Lib.hid (fun w => refTgaCol en w)
 have HCD := Lib.hid (fun w => refTgaCol d w)
 have halI : (f : Int) % 16 = (al : Int) := by omega
 have halT : (f : Int).tmod 16 = (al : Int) := by rw [Int.tmod_eq_emod_of_nonneg (by omega)]; exact halI
 have hlfT : (((f : Int).tdiv 16).tmod 2 == 1) = lf := by rw [← HLT.out.1, Int.tdiv_eq_ediv_of_nonneg (by omega), Int.tmod_eq_emod_of_nonneg (by omega), Bool.eq_iff_iff, beq_iff_eq, decide_eq_true_iff]; omega
 have hlfI : ((f : Int) / 16 % 2 == 1) = lf := by rw [← HLT.out.1, Bool.eq_iff_iff, beq_iff_eq, decide_eq_true_iff]; omega
 have htpT : (((f : Int).tdiv 32).tmod 2 == 1) = tp := by rw [← HLT.out.2, Int.tdiv_eq_ediv_of_nonneg (by omega), Int.tmod_eq_emod_of_nonneg (by omega), Bool.eq_iff_iff, beq_iff_eq, decide_eq_true_iff]; omega
 have htpI : ((f : Int) / 32 % 2 == 1) = tp := by rw [← HLT.out.2, Bool.eq_iff_iff, beq_iff_eq, decide_eq_true_iff]; omega
 clear e0 e1 e2 e3 e5 e7 eW eH e16 e17 h18 hal bn bm bt be bd bf
 go_enter Tryz.func72, Tryz.ntmps72
 go_upto_region 1 with fail
 generalize w.alloc (.cells #[.int .i64 0, .int .i64 0, .int .i64 0, .int .i64 0, .int .i64 0, .int .i64 0, .int .i64 0, .int .i64 0, .int .i64 0, .int .i64 0, .bool false, .bool false, .int .i64 0, .int .i64 0] 133) = w1 at R0 B0 ⊢
 go_upto_region 4 with fail
 by_cases hc : 1 < m
 ·exact (HSK.out (.inl hc)).elim
 have x1 : ¬ (1 : Int) < (m : Int) := by omega
 replace HF := Lib.hid (HF.out.trans (if_neg hc))
 have HN21 := Lib.hid hc
 clear hc
 go_upto_region 6 with (first | fail)
 have HM1 := HN21
 clear x1
 obtain ⟨kb, hkb⟩ : ∃ kb, (!decide (TgaKnown t)) = kb := ⟨_, rfl⟩
 have HKB := Lib.hid hkb
 clear hkb
 go_cut [40] from 19 to 40 (fun c40 wx => c40 = .bool kb ∧ wx = w1)
 case first =>
  by_cases h1 : t = 1
  ·have x1 : ((t : Int) != 1) = false := by rw [h1]; rfl
   have HE : Hid (decide (TgaKnown t) = true) := Lib.hid (by rw [h1]; rfl)
   clear h1
   go_wp2_with fail
   go_meet
   case rel => exact ⟨by rw [← HKB.out, HE.out]; rfl, rfl⟩
  have x1 : ((t : Int) != 1) = true := bne_iff_ne.2 (by omega)
  by_cases h2 : t = 2
  ·have x2 : ((t : Int) != 2) = false := by rw [h2]; rfl
   have HE : Hid (decide (TgaKnown t) = true) := Lib.hid (by rw [h2]; rfl)
   clear h2 h1
   go_wp2_with fail
   go_meet
   case rel => exact ⟨by rw [← HKB.out, HE.out]; rfl, rfl⟩
  have x2 : ((t : Int) != 2) = true := bne_iff_ne.2 (by omega)
  by_cases h3 : t = 3
  ·have x3 : ((t : Int) != 3) = false := by rw [h3]; rfl
   have HE : Hid (decide (TgaKnown t) = true) := Lib.hid (by rw [h3]; rfl)
   clear h3 h1 h2
   go_wp2_with fail
   go_meet
   case rel => exact ⟨by rw [← HKB.out, HE.out]; rfl, rfl⟩
  have x3 : ((t : Int) != 3) = true := bne_iff_ne.2 (by omega)
  by_cases h9 : t = 9
  ·have x9 : ((t : Int) != 9) = false := by rw [h9]; rfl
   have HE : Hid (decide (TgaKnown t) = true) := Lib.hid (by rw [h9]; rfl)
   clear h9 h1 h2 h3
   go_wp2_with fail
   go_meet
   case rel => exact ⟨by rw [← HKB.out, HE.out]; rfl, rfl⟩
  have x9 : ((t : Int) != 9) = true := bne_iff_ne.2 (by omega)
  by_cases h10 : t = 10
  ·have x10 : ((t : Int) != 10) = false := by rw [h10]; rfl
   have HE : Hid (decide (TgaKnown t) = true) := Lib.hid (by rw [h10]; rfl)
   clear h10 h1 h2 h3 h9
   go_wp2_with fail
   go_meet
   case rel => exact ⟨by rw [← HKB.out, HE.out]; rfl, rfl⟩
  have x10 : ((t : Int) != 10) = true := bne_iff_ne.2 (by omega)
  by_cases h11 : t = 11
  ·have x11 : ((t : Int) != 11) = false := by rw [h11]; rfl
   have HE : Hid (decide (TgaKnown t) = true) := Lib.hid (by rw [h11]; rfl)
   clear h11 h1 h2 h3 h9 h10
   go_wp2_with fail
   go_meet
   case rel => exact ⟨by rw [← HKB.out, HE.out]; rfl, rfl⟩
  have x11 : ((t : Int) != 11) = true := bne_iff_ne.2 (by omega)
  have HE := Lib.hid (decide_eq_false (p := TgaKnown t) (by unfold TgaKnown TgaPacked; omega))
  clear h1 h2 h3 h9 h10 h11
  go_wp2_with fail
  go_meet
  case rel => exact ⟨by rw [← HKB.out, HE.out]; rfl, rfl⟩
 case rest =>
  obtain ⟨rfl, rfl⟩ := hcut
  by_cases hc : ¬ TgaKnown t
  ·exact (HSK.out (.inr (.inl hc))).elim
  obtain rfl : kb = false := by rw [← HKB.out, decide_eq_true (Classical.not_not.1 hc)]; rfl
  replace HF := Lib.hid (HF.out.trans (if_neg hc))
  have HN32 := Lib.hid hc
  clear hc
  go_upto_region 8 with (first | fail)
  have HKN := Lib.hid (Classical.not_not.1 HN32.out)
  obtain ⟨mb, hmb⟩ : ∃ mb, decide (tgaPlain t = 1 ∧ m ≠ 1) = mb := ⟨_, rfl⟩
  have HMB := Lib.hid hmb
  clear hmb
  go_cut [52] from 42 to 52 (fun c52 wx => c52 = .bool mb ∧ wx = wc)
  case first =>
   by_cases h1 : t = 1
   ·have x1 : ((t : Int) == 1) = true := by rw [h1]; rfl
    have hp : tgaPlain t = 1 := by rw [h1]; rfl
    have y1 : ((m : Int) == 0) = decide (tgaPlain t = 1 ∧ m ≠ 1) := by have := HM1.out; rw [Bool.eq_iff_iff, beq_iff_eq, decide_eq_true_iff]; exact ⟨fun h => ⟨hp, by omega⟩, fun h => by omega⟩
    have Y := Lib.hid y1
    clear hp y1 h1
    go_wp2_with fail
    all_goals go_meet
    all_goals exact ⟨by rw [← HMB.out, ← Y.out], rfl⟩
   have x1 : ((t : Int) == 1) = false := beq_eq_false_iff_ne.2 (by omega)
   by_cases h9 : t = 9
   ·have x9 : ((t : Int) == 9) = true := by rw [h9]; rfl
    have hp : tgaPlain t = 1 := by rw [h9]; rfl
    have y1 : ((m : Int) == 0) = decide (tgaPlain t = 1 ∧ m ≠ 1) := by have := HM1.out; rw [Bool.eq_iff_iff, beq_iff_eq, decide_eq_true_iff]; exact ⟨fun h => ⟨hp, by omega⟩, fun h => by omega⟩
    have Y := Lib.hid y1
    clear hp y1 h9 h1
    go_wp2_with fail
    all_goals go_meet
    all_goals exact ⟨by rw [← HMB.out, ← Y.out], rfl⟩
   have x9 : ((t : Int) == 9) = false := beq_eq_false_iff_ne.2 (by omega)
   have HE : decide (tgaPlain t = 1 ∧ m ≠ 1) = false := decide_eq_false (fun e => by have h2 := e.1; unfold tgaPlain at h2; by_cases hp : TgaPacked t; rw [if_pos hp] at h2; unfold TgaPacked at hp; omega; rw [if_neg hp] at h2; omega)
   have HF2 := Lib.hid HE
   clear HE h1 h9
   go_wp2_with fail
   go_meet
   case rel => exact ⟨by rw [← HMB.out, HF2.out], rfl⟩
  case rest =>
   obtain ⟨rfl, rfl⟩ := hcut
   by_cases hc : tgaPlain t = 1 ∧ m ≠ 1
   ·exact (HSK.out (.inr (.inr (.inl hc)))).elim
   obtain rfl : mb = false := by rw [← HMB.out]; exact decide_eq_false hc
   replace HF := Lib.hid (HF.out.trans (if_neg hc))
   have HN21 := Lib.hid hc
   clear hc
   go_upto_region 10 with (first | fail)
   have R1 := Blk.drew R0
   have B1 := B0.drew
   refine wp_region_held_drew (S := (fun _ => True)) (by kernel_rfl) trivial (fun hHeld => ?_)
   generalize wc.drew = w1 at R1 B1 hHeld ⊢
   refine tk 0 ?_
   (try simp only [sps])
   refine tk 1 ?_
   (try simp only [sps])
   refine tk 2 ?_
   (try simp only [sps])
   refine tk 3 ?_
   (try simp only [sps])
   refine tk 4 ?_
   (try simp only [sps])
   refine tk 5 ?_
   (try simp only [sps])
   refine tk 6 ?_
   (try simp only [sps])
   refine tk 7 ?_
   (try simp only [sps])
   refine rdy 8 (fun K hK => ?_)
   go_simp
   have R80 := Blk.alloc R1 (.cells #[.int .i64 0, .int .i64 0, .int .i64 0, .int .i64 0, .int .i64 0, .int .i64 0, .int .i64 0, .int .i64 0, .int .i64 0, .int .i64 0, .bool false, .bool false, .int .i64 0, .int .i64 0] 133)
   have B80 := B1.alloc (by have := Blk.lt R1; omega) (.cells #[.int .i64 0, .int .i64 0, .int .i64 0, .int .i64 0, .int .i64 0, .int .i64 0, .int .i64 0, .int .i64 0, .int .i64 0, .int .i64 0, .bool false, .bool false, .int .i64 0, .int .i64 0] 133)
   have N80 : Blk (w1.alloc (.cells #[.int .i64 0, .int .i64 0, .int .i64 0, .int .i64 0, .int .i64 0, .int .i64 0, .int .i64 0, .int .i64 0, .int .i64 0, .int .i64 0, .bool false, .bool false, .int .i64 0, .int .i64 0] 133)) w1.heap.size 133 #[.int .i64 0, .int .i64 0, .int .i64 0, .int .i64 0, .int .i64 0, .int .i64 0, .int .i64 0, .int .i64 0, .int .i64 0, .int .i64 0, .bool false, .bool false, .int .i64 0, .int .i64 0] := Blk.new _ _ _
   have hq : w.heap.size < w1.heap.size := Blk.lt R1
   generalize w1.alloc (.cells #[.int .i64 0, .int .i64 0, .int .i64 0, .int .i64 0, .int .i64 0, .int .i64 0, .int .i64 0, .int .i64 0, .int .i64 0, .int .i64 0, .bool false, .bool false, .int .i64 0, .int .i64 0] 133) = w80 at R80 B80 N80 ⊢
   generalize w1.heap.size = q at N80 hq ⊢
   refine hK.out _ _ trivial ?_
   clear hK K hHeld
   intro hHeld
   (try simp only [sps])
   have u0 := Blk.cell N80 0
   have y0 := Blk.frozen N80 0
   have u1 := Blk.cell N80 1
   have y1 := Blk.frozen N80 1
   have u2 := Blk.cell N80 2
   have y2 := Blk.frozen N80 2
   have u3 := Blk.cell N80 3
   have y3 := Blk.frozen N80 3
   have u4 := Blk.cell N80 4
   have y4 := Blk.frozen N80 4
   have u5 := Blk.cell N80 5
   have y5 := Blk.frozen N80 5
   have u6 := Blk.cell N80 6
   have y6 := Blk.frozen N80 6
   have u7 := Blk.cell N80 7
   have y7 := Blk.frozen N80 7
   have u8 := Blk.cell N80 8
   have y8 := Blk.frozen N80 8
   have u9 := Blk.cell N80 9
   have y9 := Blk.frozen N80 9
   have u10 := Blk.cell N80 10
   have y10 := Blk.frozen N80 10
   have u11 := Blk.cell N80 11
   have y11 := Blk.frozen N80 11
   have u12 := Blk.cell N80 12
   have y12 := Blk.frozen N80 12
   have u13 := Blk.cell N80 13
   have y13 := Blk.frozen N80 13
   have ul := Blk.lt N80
   refine rdy 9 (fun K hK => ?_)
   go_simp
   have R81 : Blk (((((((((((((((w80).setCell ⟨q, 0, none⟩ (.int .i64 (n : Int))).setCell ⟨q, 1, none⟩ (.int .i64 (m : Int))).setCell ⟨q, 2, none⟩ (.int .i64 (t : Int))).setCell ⟨q, 3, none⟩ (.int .i64 0)).setCell ⟨q, 4, none⟩ (.int .i64 0)).setCell ⟨q, 5, none⟩ (.int .i64 0)).setCell ⟨q, 6, none⟩ (.int .i64 0)).setCell ⟨q, 7, none⟩ (.int .i64 0)).setCell ⟨q, 8, none⟩ (.int .i64 0)).setCell ⟨q, 9, none⟩ (.int .i64 0)).setCell ⟨q, 10, none⟩ (.bool false)).setCell ⟨q, 11, none⟩ (.bool false)).setCell ⟨q, 12, none⟩ (.int .i64 0)).setCell ⟨q, 13, none⟩ (.int .i64 0)) w.heap.size 133 #[.int .i64 0, .int .i64 0, .int .i64 0, .int .i64 0, .int .i64 0, .int .i64 0, .int .i64 0, .int .i64 0, .int .i64 0, .int .i64 0, .bool false, .bool false, .int .i64 0, .int .i64 0] := Blk.far (Blk.far (Blk.far (Blk.far (Blk.far (Blk.far (Blk.far (Blk.far (Blk.far (Blk.far (Blk.far (Blk.far (Blk.far (Blk.far (R80) (p := ⟨q, 0, none⟩) (Nat.ne_of_lt hq) _) (p := ⟨q, 1, none⟩) (Nat.ne_of_lt hq) _) (p := ⟨q, 2, none⟩) (Nat.ne_of_lt hq) _) (p := ⟨q, 3, none⟩) (Nat.ne_of_lt hq) _) (p := ⟨q, 4, none⟩) (Nat.ne_of_lt hq) _) (p := ⟨q, 5, none⟩) (Nat.ne_of_lt hq) _) (p := ⟨q, 6, none⟩) (Nat.ne_of_lt hq) _) (p := ⟨q, 7, none⟩) (Nat.ne_of_lt hq) _) (p := ⟨q, 8, none⟩) (Nat.ne_of_lt hq) _) (p := ⟨q, 9, none⟩) (Nat.ne_of_lt hq) _) (p := ⟨q, 10, none⟩) (Nat.ne_of_lt hq) _) (p := ⟨q, 11, none⟩) (Nat.ne_of_lt hq) _) (p := ⟨q, 12, none⟩) (Nat.ne_of_lt hq) _) (p := ⟨q, 13, none⟩) (Nat.ne_of_lt hq) _
   have B81 : Below w.heap.size w (((((((((((((((w80).setCell ⟨q, 0, none⟩ (.int .i64 (n : Int))).setCell ⟨q, 1, none⟩ (.int .i64 (m : Int))).setCell ⟨q, 2, none⟩ (.int .i64 (t : Int))).setCell ⟨q, 3, none⟩ (.int .i64 0)).setCell ⟨q, 4, none⟩ (.int .i64 0)).setCell ⟨q, 5, none⟩ (.int .i64 0)).setCell ⟨q, 6, none⟩ (.int .i64 0)).setCell ⟨q, 7, none⟩ (.int .i64 0)).setCell ⟨q, 8, none⟩ (.int .i64 0)).setCell ⟨q, 9, none⟩ (.int .i64 0)).setCell ⟨q, 10, none⟩ (.bool false)).setCell ⟨q, 11, none⟩ (.bool false)).setCell ⟨q, 12, none⟩ (.int .i64 0)).setCell ⟨q, 13, none⟩ (.int .i64 0)) := below_set (below_set (below_set (below_set (below_set (below_set (below_set (below_set (below_set (below_set (below_set (below_set (below_set (below_set (B80) (Nat.le_of_lt hq)) (Nat.le_of_lt hq)) (Nat.le_of_lt hq)) (Nat.le_of_lt hq)) (Nat.le_of_lt hq)) (Nat.le_of_lt hq)) (Nat.le_of_lt hq)) (Nat.le_of_lt hq)) (Nat.le_of_lt hq)) (Nat.le_of_lt hq)) (Nat.le_of_lt hq)) (Nat.le_of_lt hq)) (Nat.le_of_lt hq)) (Nat.le_of_lt hq)
   have N81 : Blk (((((((((((((((w80).setCell ⟨q, 0, none⟩ (.int .i64 (n : Int))).setCell ⟨q, 1, none⟩ (.int .i64 (m : Int))).setCell ⟨q, 2, none⟩ (.int .i64 (t : Int))).setCell ⟨q, 3, none⟩ (.int .i64 0)).setCell ⟨q, 4, none⟩ (.int .i64 0)).setCell ⟨q, 5, none⟩ (.int .i64 0)).setCell ⟨q, 6, none⟩ (.int .i64 0)).setCell ⟨q, 7, none⟩ (.int .i64 0)).setCell ⟨q, 8, none⟩ (.int .i64 0)).setCell ⟨q, 9, none⟩ (.int .i64 0)).setCell ⟨q, 10, none⟩ (.bool false)).setCell ⟨q, 11, none⟩ (.bool false)).setCell ⟨q, 12, none⟩ (.int .i64 0)).setCell ⟨q, 13, none⟩ (.int .i64 0)) q 133 #[.int .i64 (n : Int), .int .i64 (m : Int), .int .i64 (t : Int), .int .i64 0, .int .i64 0, .int .i64 0, .int .i64 0, .int .i64 0, .int .i64 0, .int .i64 0, .bool false, .bool false, .int .i64 0, .int .i64 0] := ((Blk.set_ ((Blk.set_ ((Blk.set_ ((Blk.set_ ((Blk.set_ ((Blk.set_ ((Blk.set_ ((Blk.set_ ((Blk.set_ ((Blk.set_ ((Blk.set_ ((Blk.set_ ((Blk.set_ ((Blk.set_ (N80) 0 _)) 1 _)) 2 _)) 3 _)) 4 _)) 5 _)) 6 _)) 7 _)) 8 _)) 9 _)) 10 _)) 11 _)) 12 _)) 13 _)).eq_ (by simp)
   clear u0 y0 u1 y1 u2 y2 u3 y3 u4 y4 u5 y5 u6 y6 u7 y7 u8 y8 u9 y9 u10 y10 u11 y11 u12 y12 u13 y13 ul
   generalize ((((((((((((((w80).setCell ⟨q, 0, none⟩ (.int .i64 (n : Int))).setCell ⟨q, 1, none⟩ (.int .i64 (m : Int))).setCell ⟨q, 2, none⟩ (.int .i64 (t : Int))).setCell ⟨q, 3, none⟩ (.int .i64 0)).setCell ⟨q, 4, none⟩ (.int .i64 0)).setCell ⟨q, 5, none⟩ (.int .i64 0)).setCell ⟨q, 6, none⟩ (.int .i64 0)).setCell ⟨q, 7, none⟩ (.int .i64 0)).setCell ⟨q, 8, none⟩ (.int .i64 0)).setCell ⟨q, 9, none⟩ (.int .i64 0)).setCell ⟨q, 10, none⟩ (.bool false)).setCell ⟨q, 11, none⟩ (.bool false)).setCell ⟨q, 12, none⟩ (.int .i64 0)).setCell ⟨q, 13, none⟩ (.int .i64 0) = w81 at R81 B81 N81 ⊢
   refine hK.out _ _ trivial ?_
   clear hK K hHeld
   intro hHeld
   (try simp only [sps])
   refine wpAnyH_done (by kernel_rfl) ?_ _
   (try simp only [sps])
   clear hHeld wrn wrm wrt
   go_upto_region 11 with fail
   obtain rfl : m = 1 := HMM.out
   go_upto_region 12 with fail
   have R2 := Blk.drew R81
   have B2 := B81.drew
   have N2 := Blk.drew N81
   refine wp_region_held_drew (S := (fun _ => True)) (by kernel_rfl) trivial (fun hHeld => ?_)
   generalize w81.drew = w2 at R2 B2 N2 hHeld ⊢
   refine tk 0 ?_
   (try simp only [sps])
   refine tk 1 ?_
   (try simp only [sps])
   refine tk 3 ?_
   (try simp only [sps])
   refine tk 4 ?_
   (try simp only [sps])
   refine tk 6 ?_
   (try simp only [sps])
   refine tk 7 ?_
   (try simp only [sps])
   refine tk 8 ?_
   (try simp only [sps])
   refine rdy 2 (fun K hK => ?_)
   go_simp
   refine (HW3.out _).mono ?_
   rintro e wz ⟨rfl, rfl⟩
   refine hK.out _ _ trivial ?_
   clear hK K hHeld
   intro hHeld
   (try simp only [sps])
   refine tk 9 ?_
   (try simp only [sps])
   refine rdy 5 (fun K hK => ?_)
   go_simp
   refine (HW5.out _).mono ?_
   rintro e wz ⟨rfl, rfl⟩
   refine hK.out _ _ trivial ?_
   clear hK K hHeld
   intro hHeld
   (try simp only [sps])
   have u3 := Blk.cell N2 3
   have y3 := Blk.frozen N2 3
   have ul := Blk.lt N2
   refine rdy 10 (fun K hK => ?_)
   go_simp
   have R3 : Blk (w2.setCell ⟨q, 3, none⟩ (.int .i64 (fi : Int))) w.heap.size 133 #[.int .i64 0, .int .i64 0, .int .i64 0, .int .i64 0, .int .i64 0, .int .i64 0, .int .i64 0, .int .i64 0, .int .i64 0, .int .i64 0, .bool false, .bool false, .int .i64 0, .int .i64 0] := Blk.far R2 (p := ⟨q, 3, none⟩) (Nat.ne_of_lt hq) _
   have B3 : Below w.heap.size w (w2.setCell ⟨q, 3, none⟩ (.int .i64 (fi : Int))) := below_set B2 (Nat.le_of_lt hq)
   have N3 : Blk (w2.setCell ⟨q, 3, none⟩ (.int .i64 (fi : Int))) q 133 #[.int .i64 (n : Int), .int .i64 ((1 : Nat) : Int), .int .i64 (t : Int), .int .i64 (fi : Int), .int .i64 0, .int .i64 0, .int .i64 0, .int .i64 0, .int .i64 0, .int .i64 0, .bool false, .bool false, .int .i64 0, .int .i64 0] := (Blk.set_ N2 3 _).eq_ (by simp)
   generalize w2.setCell ⟨q, 3, none⟩ (.int .i64 (fi : Int)) = w3 at R3 B3 N3 ⊢
   clear u3 y3 ul
   refine hK.out _ _ trivial ?_
   clear hK K hHeld
   intro hHeld
   (try simp only [sps])
   refine tk 11 ?_
   (try simp only [sps])
   have u4 := Blk.cell N3 4
   have y4 := Blk.frozen N3 4
   have ul := Blk.lt N3
   refine rdy 12 (fun K hK => ?_)
   go_simp
   have R4 : Blk (w3.setCell ⟨q, 4, none⟩ (.int .i64 (c : Int))) w.heap.size 133 #[.int .i64 0, .int .i64 0, .int .i64 0, .int .i64 0, .int .i64 0, .int .i64 0, .int .i64 0, .int .i64 0, .int .i64 0, .int .i64 0, .bool false, .bool false, .int .i64 0, .int .i64 0] := Blk.far R3 (p := ⟨q, 4, none⟩) (Nat.ne_of_lt hq) _
   have B4 : Below w.heap.size w (w3.setCell ⟨q, 4, none⟩ (.int .i64 (c : Int))) := below_set B3 (Nat.le_of_lt hq)
   have N4 : Blk (w3.setCell ⟨q, 4, none⟩ (.int .i64 (c : Int))) q 133 #[.int .i64 (n : Int), .int .i64 ((1 : Nat) : Int), .int .i64 (t : Int), .int .i64 (fi : Int), .int .i64 (c : Int), .int .i64 0, .int .i64 0, .int .i64 0, .int .i64 0, .int .i64 0, .bool false, .bool false, .int .i64 0, .int .i64 0] := (Blk.set_ N3 4 _).eq_ (by simp)
   generalize w3.setCell ⟨q, 4, none⟩ (.int .i64 (c : Int)) = w4 at R4 B4 N4 ⊢
   clear u4 y4 ul
   refine hK.out _ _ trivial ?_
   clear hK K hHeld
   intro hHeld
   (try simp only [sps])
   refine tk 13 ?_
   (try simp only [sps])
   have u5 := Blk.cell N4 5
   have y5 := Blk.frozen N4 5
   have ul := Blk.lt N4
   refine rdy 14 (fun K hK => ?_)
   go_simp
   have R5 : Blk (w4.setCell ⟨q, 5, none⟩ (.int .i64 (en : Int))) w.heap.size 133 #[.int .i64 0, .int .i64 0, .int .i64 0, .int .i64 0, .int .i64 0, .int .i64 0, .int .i64 0, .int .i64 0, .int .i64 0, .int .i64 0, .bool false, .bool false, .int .i64 0, .int .i64 0] := Blk.far R4 (p := ⟨q, 5, none⟩) (Nat.ne_of_lt hq) _
   have B5 : Below w.heap.size w (w4.setCell ⟨q, 5, none⟩ (.int .i64 (en : Int))) := below_set B4 (Nat.le_of_lt hq)
   have N5 : Blk (w4.setCell ⟨q, 5, none⟩ (.int .i64 (en : Int))) q 133 #[.int .i64 (n : Int), .int .i64 ((1 : Nat) : Int), .int .i64 (t : Int), .int .i64 (fi : Int), .int .i64 (c : Int), .int .i64 (en : Int), .int .i64 0, .int .i64 0, .int .i64 0, .int .i64 0, .bool false, .bool false, .int .i64 0, .int .i64 0] := (Blk.set_ N4 5 _).eq_ (by simp)
   generalize w4.setCell ⟨q, 5, none⟩ (.int .i64 (en : Int)) = w5 at R5 B5 N5 ⊢
   clear u5 y5 ul
   refine hK.out _ _ trivial ?_
   clear hK K hHeld
   intro hHeld
   (try simp only [sps])
   refine wpAnyH_done (by kernel_rfl) ?_ _
   (try simp only [sps])
   clear hHeld
   have k4 : w5.cell? ⟨q, 4, none⟩ = some (.int .i64 (c : Int)) := Blk.cell N5 4
   have k5 : w5.cell? ⟨q, 5, none⟩ = some (.int .i64 (en : Int)) := Blk.cell N5 5
   have kl := Blk.lt N5
   go_upto_region 13 with fail
   by_cases hc : 1 = 1 ∧ ¬ TgaCol en
   ·exact (HSK.out (.inr (.inr (.inr (.inl hc.2))))).elim
   have x5 : decide (TgaCol en) = true := decide_eq_true (Classical.not_not.1 (fun e => hc ⟨rfl, e⟩))
   replace HF := Lib.hid (HF.out.trans (if_neg hc))
   have HN37 := Lib.hid hc
   clear hc
   go_upto_region 15 with (first | fail | (go_at_call 124; refine (HCE.out _).mono ?_; rintro e wz ⟨rfl, rfl⟩))
   by_cases hc : c = 0
   ·exact (HSK.out (.inr (.inr (.inr (.inr (.inl hc)))))).elim
   have x6 : ¬ (c : Int) = 0 := by omega
   replace HF := Lib.hid (HF.out.trans (if_neg (fun e => hc e.2)))
   have HN25 := Lib.hid hc
   clear hc
   go_upto_region 17 with fail
   clear x5 x6 k4 k5 kl
   have R6 := Blk.drew R5
   have B6 := B5.drew
   have N6 := Blk.drew N5
   refine wp_region_held_drew (S := (fun _ => True)) (by kernel_rfl) trivial (fun hHeld => ?_)
   generalize w5.drew = w6 at R6 B6 N6 hHeld ⊢
   refine tk 0 ?_
   (try simp only [sps])
   refine tk 1 ?_
   (try simp only [sps])
   refine tk 3 ?_
   (try simp only [sps])
   refine tk 4 ?_
   (try simp only [sps])
   refine rdy 2 (fun K hK => ?_)
   go_simp
   refine (HW12.out _).mono ?_
   rintro e wz ⟨rfl, rfl⟩
   refine hK.out _ _ trivial ?_
   clear hK K hHeld
   intro hHeld
   (try simp only [sps])
   refine tk 6 ?_
   (try simp only [sps])
   refine rdy 5 (fun K hK => ?_)
   go_simp
   refine (HW14.out _).mono ?_
   rintro e wz ⟨rfl, rfl⟩
   refine hK.out _ _ trivial ?_
   clear hK K hHeld
   intro hHeld
   (try simp only [sps])
   have u6 := Blk.cell N6 6
   have y6 := Blk.frozen N6 6
   have ul := Blk.lt N6
   refine rdy 7 (fun K hK => ?_)
   go_simp
   have R7 : Blk (w6.setCell ⟨q, 6, none⟩ (.int .i64 (W : Int))) w.heap.size 133 #[.int .i64 0, .int .i64 0, .int .i64 0, .int .i64 0, .int .i64 0, .int .i64 0, .int .i64 0, .int .i64 0, .int .i64 0, .int .i64 0, .bool false, .bool false, .int .i64 0, .int .i64 0] := Blk.far R6 (p := ⟨q, 6, none⟩) (Nat.ne_of_lt hq) _
   have B7 : Below w.heap.size w (w6.setCell ⟨q, 6, none⟩ (.int .i64 (W : Int))) := below_set B6 (Nat.le_of_lt hq)
   have N7 : Blk (w6.setCell ⟨q, 6, none⟩ (.int .i64 (W : Int))) q 133 #[.int .i64 (n : Int), .int .i64 ((1 : Nat) : Int), .int .i64 (t : Int), .int .i64 (fi : Int), .int .i64 (c : Int), .int .i64 (en : Int), .int .i64 (W : Int), .int .i64 0, .int .i64 0, .int .i64 0, .bool false, .bool false, .int .i64 0, .int .i64 0] := (Blk.set_ N6 6 _).eq_ (by simp)
   generalize w6.setCell ⟨q, 6, none⟩ (.int .i64 (W : Int)) = w7 at R7 B7 N7 ⊢
   clear u6 y6 ul
   refine hK.out _ _ trivial ?_
   clear hK K hHeld
   intro hHeld
   (try simp only [sps])
   refine tk 8 ?_
   (try simp only [sps])
   have u7 := Blk.cell N7 7
   have y7 := Blk.frozen N7 7
   have ul := Blk.lt N7
   refine rdy 9 (fun K hK => ?_)
   go_simp
   have R8 : Blk (w7.setCell ⟨q, 7, none⟩ (.int .i64 (H : Int))) w.heap.size 133 #[.int .i64 0, .int .i64 0, .int .i64 0, .int .i64 0, .int .i64 0, .int .i64 0, .int .i64 0, .int .i64 0, .int .i64 0, .int .i64 0, .bool false, .bool false, .int .i64 0, .int .i64 0] := Blk.far R7 (p := ⟨q, 7, none⟩) (Nat.ne_of_lt hq) _
   have B8 : Below w.heap.size w (w7.setCell ⟨q, 7, none⟩ (.int .i64 (H : Int))) := below_set B7 (Nat.le_of_lt hq)
   have N8 : Blk (w7.setCell ⟨q, 7, none⟩ (.int .i64 (H : Int))) q 133 #[.int .i64 (n : Int), .int .i64 ((1 : Nat) : Int), .int .i64 (t : Int), .int .i64 (fi : Int), .int .i64 (c : Int), .int .i64 (en : Int), .int .i64 (W : Int), .int .i64 (H : Int), .int .i64 0, .int .i64 0, .bool false, .bool false, .int .i64 0, .int .i64 0] := (Blk.set_ N7 7 _).eq_ (by simp)
   generalize w7.setCell ⟨q, 7, none⟩ (.int .i64 (H : Int)) = w8 at R8 B8 N8 ⊢
   clear u7 y7 ul
   refine hK.out _ _ trivial ?_
   clear hK K hHeld
   intro hHeld
   (try simp only [sps])
   refine wpAnyH_done (by kernel_rfl) ?_ _
   (try simp only [sps])
   clear hHeld
   have k6 : w8.cell? ⟨q, 6, none⟩ = some (.int .i64 (W : Int)) := Blk.cell N8 6
   have k7 : w8.cell? ⟨q, 7, none⟩ = some (.int .i64 (H : Int)) := Blk.cell N8 7
   have kl := Blk.lt N8
   go_upto_region 18 with fail
   by_cases hc : W = 0
   ·exact (HSK.out (.inr (.inr (.inr (.inr (.inr (.inl hc))))))).elim
   have x1 : ¬ (W : Int) = 0 := by omega
   replace HF := Lib.hid (HF.out.trans (if_neg hc))
   have HN212 := Lib.hid hc
   clear hc
   go_upto_region 20 with fail
   by_cases hc : 16384 < W
   ·exact (HSK.out (.inr (.inr (.inr (.inr (.inr (.inr (.inl hc)))))))).elim
   have x2 : ¬ (16384 : Int) < (W : Int) := by omega
   replace HF := Lib.hid (HF.out.trans (if_neg hc))
   have HN312 := Lib.hid hc
   clear hc
   go_upto_region 22 with fail
   by_cases hc : H = 0
   ·exact (HSK.out (.inr (.inr (.inr (.inr (.inr (.inr (.inr (.inl hc))))))))).elim
   have x3 : ¬ (H : Int) = 0 := by omega
   replace HF := Lib.hid (HF.out.trans (if_neg hc))
   have HN214 := Lib.hid hc
   clear hc
   go_upto_region 24 with fail
   by_cases hc : 16384 < H
   ·exact (HSK.out (.inr (.inr (.inr (.inr (.inr (.inr (.inr (.inr hc))))))))).elim
   have x4 : ¬ (16384 : Int) < (H : Int) := by omega
   replace HF := Lib.hid (HF.out.trans (if_neg hc))
   have HN314 := Lib.hid hc
   clear hc
   go_upto_region 26 with fail
   clear k6 k7 kl x1 x2 x3 x4
   have k8 : w8.cell? ⟨q, 8, none⟩ = some (.int .i64 0) := Blk.cell N8 8
   have y8 := Blk.frozen N8 8
   have kl := Blk.lt N8
   go_upto_region 27 with fail
   clear k8 y8 kl
   have R9 : Blk (w8.setCell ⟨q, 8, none⟩ (.int .i64 (d : Int))) w.heap.size 133 #[.int .i64 0, .int .i64 0, .int .i64 0, .int .i64 0, .int .i64 0, .int .i64 0, .int .i64 0, .int .i64 0, .int .i64 0, .int .i64 0, .bool false, .bool false, .int .i64 0, .int .i64 0] := Blk.far R8 (p := ⟨q, 8, none⟩) (Nat.ne_of_lt hq) _
   have B9 : Below w.heap.size w (w8.setCell ⟨q, 8, none⟩ (.int .i64 (d : Int))) := below_set B8 (Nat.le_of_lt hq)
   have N9 : Blk (w8.setCell ⟨q, 8, none⟩ (.int .i64 (d : Int))) q 133 #[.int .i64 (n : Int), .int .i64 ((1 : Nat) : Int), .int .i64 (t : Int), .int .i64 (fi : Int), .int .i64 (c : Int), .int .i64 (en : Int), .int .i64 (W : Int), .int .i64 (H : Int), .int .i64 (d : Int), .int .i64 0, .bool false, .bool false, .int .i64 0, .int .i64 0] := (Blk.set_ N8 8 _).eq_ (by simp)
   generalize w8.setCell ⟨q, 8, none⟩ (.int .i64 (d : Int)) = w9 at R9 B9 N9 ⊢
   have k8 : w9.cell? ⟨q, 8, none⟩ = some (.int .i64 (d : Int)) := Blk.cell N9 8
   have kl := Blk.lt N9
   obtain ⟨db, hdb⟩ : ∃ db, (!decide (TgaDepth t d)) = db := ⟨_, rfl⟩
   have HDB := Lib.hid hdb
   clear hdb
   go_cut [138] from 53 to 138 (fun c138 wx => c138 = .bool db ∧ wx = w9)
   case first =>
    by_cases h2 : t = 2
    ·have x2 : ((t : Int) == 2) = true := by rw [h2]; rfl
     have x2n : ((t : Int) != 2) = false := by rw [h2]; rfl
     have HG := Lib.hid (depth_col (d := d) (.inl h2))
     by_cases hcd : TgaCol d
     ·have HD3 : Hid (decide (TgaCol d) = true) := Lib.hid (decide_eq_true hcd)
      have HCB := HCD
      rw [HD3.out] at HCB
      clear hcd h2
      go_wp2_with (go_at_call 124; refine (HCB.out _).mono ?_; rintro e wz ⟨rfl, rfl⟩)
      go_meet
      case rel => exact ⟨by rw [← HDB.out, HG.out, HD3.out]; rfl, rfl⟩
     ·have HD3 : Hid (decide (TgaCol d) = false) := Lib.hid (decide_eq_false hcd)
      have HCB := HCD
      rw [HD3.out] at HCB
      clear hcd h2
      go_wp2_with (go_at_call 124; refine (HCB.out _).mono ?_; rintro e wz ⟨rfl, rfl⟩)
      go_meet
      case rel => exact ⟨by rw [← HDB.out, HG.out, HD3.out]; rfl, rfl⟩
    ·have x2 : ((t : Int) == 2) = false := beq_eq_false_iff_ne.2 (by omega)
     have x2n : ((t : Int) != 2) = true := bne_iff_ne.2 (by omega)
     by_cases h10 : t = 10
     ·have x10 : ((t : Int) == 10) = true := by rw [h10]; rfl
      have x10n : ((t : Int) != 10) = false := by rw [h10]; rfl
      have HG := Lib.hid (depth_col (d := d) (.inr h10))
      by_cases hcd : TgaCol d
      ·have HD3 : Hid (decide (TgaCol d) = true) := Lib.hid (decide_eq_true hcd)
       have HCB := HCD
       rw [HD3.out] at HCB
       clear hcd h2 h10
       go_wp2_with (go_at_call 124; refine (HCB.out _).mono ?_; rintro e wz ⟨rfl, rfl⟩)
       go_meet
       case rel => exact ⟨by rw [← HDB.out, HG.out, HD3.out]; rfl, rfl⟩
      ·have HD3 : Hid (decide (TgaCol d) = false) := Lib.hid (decide_eq_false hcd)
       have HCB := HCD
       rw [HD3.out] at HCB
       clear hcd h2 h10
       go_wp2_with (go_at_call 124; refine (HCB.out _).mono ?_; rintro e wz ⟨rfl, rfl⟩)
       go_meet
       case rel => exact ⟨by rw [← HDB.out, HG.out, HD3.out]; rfl, rfl⟩
     ·have x10 : ((t : Int) == 10) = false := beq_eq_false_iff_ne.2 (by omega)
      have x10n : ((t : Int) != 10) = true := bne_iff_ne.2 (by omega)
      have HE := depth_gray (d := d) HKN.out h2 h10
      by_cases h8 : d = 8
      ·have x8 : ((d : Int) != 8) = false := by rw [h8]; rfl
       have HG := Lib.hid (HE.trans (decide_eq_true h8))
       clear h2 h10 HE h8
       go_wp2_with fail
       go_meet
       case rel => exact ⟨by rw [← HDB.out, HG.out]; rfl, rfl⟩
      ·have x8 : ((d : Int) != 8) = true := bne_iff_ne.2 (by omega)
       have HG := Lib.hid (HE.trans (decide_eq_false h8))
       clear h2 h10 HE h8
       go_wp2_with fail
       go_meet
       case rel => exact ⟨by rw [← HDB.out, HG.out]; rfl, rfl⟩
   case rest =>
    obtain ⟨rfl, rfl⟩ := hcut
    clear k8 kl
    by_cases hc : ¬ TgaDepth t d
    ·obtain rfl : db = true := by rw [← HDB.out, decide_eq_false hc]; rfl
     have HC := Lib.hid hc
     clear hc
     go_wp2_with (first | (go_at_call 123; refine (refTgaBad _ _ _).mono ?_; unfold tRdV; rintro e wb ⟨rfl, bb⟩; have R9 := Blk.below R9 bb (Blk.lt R9); have B9 := below_next B9 bb; have r0 := Blk.cell R9 0; have z0 := Blk.frozen R9 0; have r1 := Blk.cell R9 1; have z1 := Blk.frozen R9 1; have r2 := Blk.cell R9 2; have z2 := Blk.frozen R9 2; have r3 := Blk.cell R9 3; have z3 := Blk.frozen R9 3; have r4 := Blk.cell R9 4; have z4 := Blk.frozen R9 4; have r5 := Blk.cell R9 5; have z5 := Blk.frozen R9 5; have r6 := Blk.cell R9 6; have z6 := Blk.frozen R9 6; have r7 := Blk.cell R9 7; have z7 := Blk.frozen R9 7; have r8 := Blk.cell R9 8; have z8 := Blk.frozen R9 8; have r9 := Blk.cell R9 9; have z9 := Blk.frozen R9 9; have r10 := Blk.cell R9 10; have z10 := Blk.frozen R9 10; have r11 := Blk.cell R9 11; have z11 := Blk.frozen R9 11; have r12 := Blk.cell R9 12; have z12 := Blk.frozen R9 12; have r13 := Blk.cell R9 13; have z13 := Blk.frozen R9 13; have rl := Blk.lt R9))
     exact bodyPost_ret (v := tRdV 0 0 0 0 0 0 0 0 0 0 false false 3 16) (ret35 rfl R9 rfl _ _ _ _ _ _ _ _ _ _ _ _ _ _) rfl ⟨congrArg Ending.returned (tgaRdV_some (HF.out.trans (if_pos HC.out))).symm, Below.st14 B9 (Nat.le_refl _)⟩
    obtain rfl : db = false := by rw [← HDB.out, decide_eq_true (Classical.not_not.1 hc)]; rfl
    replace HF := Lib.hid (HF.out.trans (if_neg hc))
    have HN316 := Lib.hid hc
    clear hc
    go_upto_region 30 with fail
    by_cases hc : 64 ≤ f
    ·have x6 : (64 : Int) ≤ (f : Int) := by omega
     have HC := Lib.hid hc
     clear hc
     go_wp2_with (first | (go_at_call 123; refine (refTgaBad _ _ _).mono ?_; unfold tRdV; rintro e wb ⟨rfl, bb⟩; have R9 := Blk.below R9 bb (Blk.lt R9); have B9 := below_next B9 bb; have r0 := Blk.cell R9 0; have z0 := Blk.frozen R9 0; have r1 := Blk.cell R9 1; have z1 := Blk.frozen R9 1; have r2 := Blk.cell R9 2; have z2 := Blk.frozen R9 2; have r3 := Blk.cell R9 3; have z3 := Blk.frozen R9 3; have r4 := Blk.cell R9 4; have z4 := Blk.frozen R9 4; have r5 := Blk.cell R9 5; have z5 := Blk.frozen R9 5; have r6 := Blk.cell R9 6; have z6 := Blk.frozen R9 6; have r7 := Blk.cell R9 7; have z7 := Blk.frozen R9 7; have r8 := Blk.cell R9 8; have z8 := Blk.frozen R9 8; have r9 := Blk.cell R9 9; have z9 := Blk.frozen R9 9; have r10 := Blk.cell R9 10; have z10 := Blk.frozen R9 10; have r11 := Blk.cell R9 11; have z11 := Blk.frozen R9 11; have r12 := Blk.cell R9 12; have z12 := Blk.frozen R9 12; have r13 := Blk.cell R9 13; have z13 := Blk.frozen R9 13; have rl := Blk.lt R9))
     exact bodyPost_ret (v := tRdV 0 0 0 0 0 0 0 0 0 0 false false 3 17) (ret35 rfl R9 rfl _ _ _ _ _ _ _ _ _ _ _ _ _ _) rfl ⟨congrArg Ending.returned (tgaRdV_some (HF.out.trans (if_pos HC.out))).symm, Below.st14 B9 (Nat.le_refl _)⟩
    have x6 : ¬ (64 : Int) ≤ (f : Int) := by omega
    replace HF := Lib.hid (HF.out.trans (if_neg hc))
    have HN317 := Lib.hid hc
    clear hc
    go_upto_region 32 with fail
    clear x6
    have k9 : wc.cell? ⟨q, 9, none⟩ = some (.int .i64 0) := Blk.cell N9 9
    have y9 := Blk.frozen N9 9
    have kl := Blk.lt N9
    go_upto_region 33 with fail
    clear k9 y9 kl
    have R10 : Blk (wc.setCell ⟨q, 9, none⟩ (.int .i64 (al : Int))) w.heap.size 133 #[.int .i64 0, .int .i64 0, .int .i64 0, .int .i64 0, .int .i64 0, .int .i64 0, .int .i64 0, .int .i64 0, .int .i64 0, .int .i64 0, .bool false, .bool false, .int .i64 0, .int .i64 0] := Blk.far R9 (p := ⟨q, 9, none⟩) (Nat.ne_of_lt hq) _
    have B10 : Below w.heap.size w (wc.setCell ⟨q, 9, none⟩ (.int .i64 (al : Int))) := below_set B9 (Nat.le_of_lt hq)
    have N10 : Blk (wc.setCell ⟨q, 9, none⟩ (.int .i64 (al : Int))) q 133 #[.int .i64 (n : Int), .int .i64 ((1 : Nat) : Int), .int .i64 (t : Int), .int .i64 (fi : Int), .int .i64 (c : Int), .int .i64 (en : Int), .int .i64 (W : Int), .int .i64 (H : Int), .int .i64 (d : Int), .int .i64 (al : Int), .bool false, .bool false, .int .i64 0, .int .i64 0] := (Blk.set_ N9 9 _).eq_ (by simp)
    generalize wc.setCell ⟨q, 9, none⟩ (.int .i64 (al : Int)) = w10 at R10 B10 N10 ⊢
    have k8 : w10.cell? ⟨q, 8, none⟩ = some (.int .i64 (d : Int)) := Blk.cell N10 8
    have k9 : w10.cell? ⟨q, 9, none⟩ = some (.int .i64 (al : Int)) := Blk.cell N10 9
    have kl := Blk.lt N10
    obtain ⟨ab, hab⟩ : ∃ ab, (!decide (TgaAlpha d al)) = ab := ⟨_, rfl⟩
    have HAB := Lib.hid hab
    clear hab
    go_cut [173] from 53 to 173 (fun c173 wx => c173 = .bool ab ∧ wx = w10)
    case first =>
     by_cases a0 : al = 0
     ·have x0 : ((al : Int) != 0) = false := by rw [a0]; rfl
      have HE : decide (TgaAlpha d al) = true := decide_eq_true (.inl a0)
      have HG := Lib.hid HE
      clear HE a0
      go_wp2_with fail
      go_meet
      case rel => exact ⟨by rw [← HAB.out, HG.out]; rfl, rfl⟩
     ·have x0 : ((al : Int) != 0) = true := bne_iff_ne.2 (by omega)
      by_cases d32 : d = 32
      ·have y1 : ((d : Int) == 32) = true := by rw [d32]; rfl
       have y2 : ((d : Int) == 16) = false := by rw [d32]; rfl
       by_cases ha8 : al = 8
       ·have y3 : ((al : Int) == 8) = true := by rw [ha8]; rfl
        have HG : Hid (decide (TgaAlpha d al) = true) := Lib.hid (decide_eq_true (by unfold TgaAlpha; omega))
        clear ha8 d32 a0
        go_wp2_with fail
        go_meet
        case rel => exact ⟨by rw [← HAB.out, HG.out]; rfl, rfl⟩
       ·have y3 : ((al : Int) == 8) = false := beq_eq_false_iff_ne.2 (by omega)
        have HG : Hid (decide (TgaAlpha d al) = false) := Lib.hid (decide_eq_false (by unfold TgaAlpha; omega))
        clear ha8 d32 a0
        go_wp2_with fail
        go_meet
        case rel => exact ⟨by rw [← HAB.out, HG.out]; rfl, rfl⟩
      ·have y1 : ((d : Int) == 32) = false := beq_eq_false_iff_ne.2 (by omega)
       by_cases d16 : d = 16
       ·have y2 : ((d : Int) == 16) = true := by rw [d16]; rfl
        by_cases ha8 : al = 1
        ·have y3 : ((al : Int) == 1) = true := by rw [ha8]; rfl
         have HG : Hid (decide (TgaAlpha d al) = true) := Lib.hid (decide_eq_true (by unfold TgaAlpha; omega))
         clear ha8 d16 d32 a0
         go_wp2_with fail
         go_meet
         case rel => exact ⟨by rw [← HAB.out, HG.out]; rfl, rfl⟩
        ·have y3 : ((al : Int) == 1) = false := beq_eq_false_iff_ne.2 (by omega)
         have HG : Hid (decide (TgaAlpha d al) = false) := Lib.hid (decide_eq_false (by unfold TgaAlpha; omega))
         clear ha8 d16 d32 a0
         go_wp2_with fail
         go_meet
         case rel => exact ⟨by rw [← HAB.out, HG.out]; rfl, rfl⟩
       ·have y2 : ((d : Int) == 16) = false := beq_eq_false_iff_ne.2 (by omega)
        have HE : decide (TgaAlpha d al) = false := decide_eq_false (by unfold TgaAlpha; omega)
        have HG := Lib.hid HE
        clear HE d16 d32 a0
        go_wp2_with fail
        go_meet
        case rel => exact ⟨by rw [← HAB.out, HG.out]; rfl, rfl⟩
    case rest =>
     obtain ⟨rfl, rfl⟩ := hcut
     clear k8 k9 kl
     by_cases hc : ¬ TgaAlpha d (f % 16)
     ·obtain rfl : ab = true := by rw [← HAB.out, decide_eq_false (by rw [← HAL.out]; exact hc)]; rfl
      have HC := Lib.hid hc
      clear hc
      go_wp2_with (first | (go_at_call 123; refine (refTgaBad _ _ _).mono ?_; unfold tRdV; rintro e wb ⟨rfl, bb⟩; have R9 := Blk.below R10 bb (Blk.lt R10); have B9 := below_next B10 bb; have r0 := Blk.cell R9 0; have z0 := Blk.frozen R9 0; have r1 := Blk.cell R9 1; have z1 := Blk.frozen R9 1; have r2 := Blk.cell R9 2; have z2 := Blk.frozen R9 2; have r3 := Blk.cell R9 3; have z3 := Blk.frozen R9 3; have r4 := Blk.cell R9 4; have z4 := Blk.frozen R9 4; have r5 := Blk.cell R9 5; have z5 := Blk.frozen R9 5; have r6 := Blk.cell R9 6; have z6 := Blk.frozen R9 6; have r7 := Blk.cell R9 7; have z7 := Blk.frozen R9 7; have r8 := Blk.cell R9 8; have z8 := Blk.frozen R9 8; have r9 := Blk.cell R9 9; have z9 := Blk.frozen R9 9; have r10 := Blk.cell R9 10; have z10 := Blk.frozen R9 10; have r11 := Blk.cell R9 11; have z11 := Blk.frozen R9 11; have r12 := Blk.cell R9 12; have z12 := Blk.frozen R9 12; have r13 := Blk.cell R9 13; have z13 := Blk.frozen R9 13; have rl := Blk.lt R9))
      exact bodyPost_ret (v := tRdV 0 0 0 0 0 0 0 0 0 0 false false 2 17) (ret35 rfl R9 rfl _ _ _ _ _ _ _ _ _ _ _ _ _ _) rfl ⟨congrArg Ending.returned (tgaRdV_some (HF.out.trans (if_pos HC.out))).symm, Below.st14 B9 (Nat.le_refl _)⟩
     obtain rfl : ab = false := by rw [← HAB.out, decide_eq_true (by rw [← HAL.out]; exact Classical.not_not.1 hc)]; rfl
     replace HF := Lib.hid (HF.out.trans (if_neg hc))
     have HN217 := Lib.hid hc
     clear hc
     go_upto_region 35 with fail
     have k10 : wc.cell? ⟨q, 10, none⟩ = some (.bool false) := Blk.cell N10 10
     have y10 := Blk.frozen N10 10
     have kl := Blk.lt N10
     go_upto_region 36 with fail
     clear k10 y10 kl
     have R11 : Blk (wc.setCell ⟨q, 10, none⟩ (.bool lf)) w.heap.size 133 #[.int .i64 0, .int .i64 0, .int .i64 0, .int .i64 0, .int .i64 0, .int .i64 0, .int .i64 0, .int .i64 0, .int .i64 0, .int .i64 0, .bool false, .bool false, .int .i64 0, .int .i64 0] := Blk.far R10 (p := ⟨q, 10, none⟩) (Nat.ne_of_lt hq) _
     have B11 : Below w.heap.size w (wc.setCell ⟨q, 10, none⟩ (.bool lf)) := below_set B10 (Nat.le_of_lt hq)
     have N11 : Blk (wc.setCell ⟨q, 10, none⟩ (.bool lf)) q 133 #[.int .i64 (n : Int), .int .i64 ((1 : Nat) : Int), .int .i64 (t : Int), .int .i64 (fi : Int), .int .i64 (c : Int), .int .i64 (en : Int), .int .i64 (W : Int), .int .i64 (H : Int), .int .i64 (d : Int), .int .i64 (al : Int), .bool lf, .bool false, .int .i64 0, .int .i64 0] := (Blk.set_ N10 10 _).eq_ (by simp)
     generalize wc.setCell ⟨q, 10, none⟩ (.bool lf) = w11 at R11 B11 N11 ⊢
     have k11 : w11.cell? ⟨q, 11, none⟩ = some (.bool false) := Blk.cell N11 11
     have y11 := Blk.frozen N11 11
     have kl := Blk.lt N11
     go_upto_region 37 with fail
     clear k11 y11 kl
     have R12 : Blk (w11.setCell ⟨q, 11, none⟩ (.bool tp)) w.heap.size 133 #[.int .i64 0, .int .i64 0, .int .i64 0, .int .i64 0, .int .i64 0, .int .i64 0, .int .i64 0, .int .i64 0, .int .i64 0, .int .i64 0, .bool false, .bool false, .int .i64 0, .int .i64 0] := Blk.far R11 (p := ⟨q, 11, none⟩) (Nat.ne_of_lt hq) _
     have B12 : Below w.heap.size w (w11.setCell ⟨q, 11, none⟩ (.bool tp)) := below_set B11 (Nat.le_of_lt hq)
     have N12 : Blk (w11.setCell ⟨q, 11, none⟩ (.bool tp)) q 133 #[.int .i64 (n : Int), .int .i64 ((1 : Nat) : Int), .int .i64 (t : Int), .int .i64 (fi : Int), .int .i64 (c : Int), .int .i64 (en : Int), .int .i64 (W : Int), .int .i64 (H : Int), .int .i64 (d : Int), .int .i64 (al : Int), .bool lf, .bool tp, .int .i64 0, .int .i64 0] := (Blk.set_ N11 11 _).eq_ (by simp)
     generalize w11.setCell ⟨q, 11, none⟩ (.bool tp) = w12 at R12 B12 N12 ⊢
     have r0 := Blk.cell R12 0
     have z0 := Blk.frozen R12 0
     have r1 := Blk.cell R12 1
     have z1 := Blk.frozen R12 1
     have r2 := Blk.cell R12 2
     have z2 := Blk.frozen R12 2
     have r3 := Blk.cell R12 3
     have z3 := Blk.frozen R12 3
     have r4 := Blk.cell R12 4
     have z4 := Blk.frozen R12 4
     have r5 := Blk.cell R12 5
     have z5 := Blk.frozen R12 5
     have r6 := Blk.cell R12 6
     have z6 := Blk.frozen R12 6
     have r7 := Blk.cell R12 7
     have z7 := Blk.frozen R12 7
     have r8 := Blk.cell R12 8
     have z8 := Blk.frozen R12 8
     have r9 := Blk.cell R12 9
     have z9 := Blk.frozen R12 9
     have r10 := Blk.cell R12 10
     have z10 := Blk.frozen R12 10
     have r11 := Blk.cell R12 11
     have z11 := Blk.frozen R12 11
     have r12 := Blk.cell R12 12
     have z12 := Blk.frozen R12 12
     have r13 := Blk.cell R12 13
     have z13 := Blk.frozen R12 13
     have rl := Blk.lt R12
     have k0 : w12.cell? ⟨q, 0, none⟩ = some (.int .i64 (n : Int)) := Blk.cell N12 0
     have k1 : w12.cell? ⟨q, 1, none⟩ = some (.int .i64 ((1 : Nat) : Int)) := Blk.cell N12 1
     have k2 : w12.cell? ⟨q, 2, none⟩ = some (.int .i64 (t : Int)) := Blk.cell N12 2
     have k3 : w12.cell? ⟨q, 3, none⟩ = some (.int .i64 (fi : Int)) := Blk.cell N12 3
     have k4 : w12.cell? ⟨q, 4, none⟩ = some (.int .i64 (c : Int)) := Blk.cell N12 4
     have k5 : w12.cell? ⟨q, 5, none⟩ = some (.int .i64 (en : Int)) := Blk.cell N12 5
     have k6 : w12.cell? ⟨q, 6, none⟩ = some (.int .i64 (W : Int)) := Blk.cell N12 6
     have k7 : w12.cell? ⟨q, 7, none⟩ = some (.int .i64 (H : Int)) := Blk.cell N12 7
     have k8 : w12.cell? ⟨q, 8, none⟩ = some (.int .i64 (d : Int)) := Blk.cell N12 8
     have k9 : w12.cell? ⟨q, 9, none⟩ = some (.int .i64 (al : Int)) := Blk.cell N12 9
     have k10 : w12.cell? ⟨q, 10, none⟩ = some (.bool lf) := Blk.cell N12 10
     have k11 : w12.cell? ⟨q, 11, none⟩ = some (.bool tp) := Blk.cell N12 11
     have k12 : w12.cell? ⟨q, 12, none⟩ = some (.int .i64 0) := Blk.cell N12 12
     have k13 : w12.cell? ⟨q, 13, none⟩ = some (.int .i64 0) := Blk.cell N12 13
     have kl := Blk.lt N12
     have hne := Nat.ne_of_lt hq
     have hne' := hne.symm
     go_wp2_with fail
     exact bodyPost_ret (v := .agg #[.int .i64 (n : Int), .int .i64 ((1 : Nat) : Int), .int .i64 (t : Int), .int .i64 (fi : Int), .int .i64 (c : Int), .int .i64 (en : Int), .int .i64 (W : Int), .int .i64 (H : Int), .int .i64 (d : Int), .int .i64 (al : Int), .bool lf, .bool tp, .int .i64 0, .int .i64 0]) (ret35 rfl R12 rfl _ _ _ _ _ _ _ _ _ _ _ _ _ _) rfl ⟨congrArg Ending.returned (Eq.symm (a := tgaRdV s) (b := .agg #[.int .i64 (n : Int), .int .i64 ((1 : Nat) : Int), .int .i64 (t : Int), .int .i64 (fi : Int), .int .i64 (c : Int), .int .i64 (en : Int), .int .i64 (W : Int), .int .i64 (H : Int), .int .i64 (d : Int), .int .i64 (al : Int), .bool lf, .bool tp, .int .i64 0, .int .i64 0]) (by unfold tgaRdV; rw [HF.out]; exact HHV.out.trans (by simp))), Below.st14 B12 (Nat.le_refl _)⟩
theorem refTgaReadA {s : ByteArray} (hsm : s.size ≤ 9223372036854775807) (w : World) : Calls Tryz.prog 72 #[.string s] w fun e w' => e = .returned (tgaRdV s) ∧ Below w.heap.size w w' := by
 by_cases h18 : s.size < 18
 ·exact refTgaRead_short h18 hsm w
 ·by_cases h3 : 1 < bat s 1 ∨ ¬ TgaKnown (bat s 2) ∨ (tgaPlain (bat s 2) = 1 ∧ bat s 1 ≠ 1)
  ·exact refTgaRead_first h18 h3 hsm w
  ·by_cases hm : bat s 1 = 1
   ·by_cases h6 : ¬ TgaCol (bat s 7) ∨ le2 s 5 = 0 ∨ le2 s 12 = 0 ∨ 16384 < le2 s 12 ∨ le2 s 14 = 0 ∨ 16384 < le2 s 14
    ·exact refTgaRead_m1e h18 h3 hm h6 hsm w
    ·exact refTgaRead_m1l h18 (fun e => by
      rcases e with e | e | e | e
      ·exact h3 (.inl e)
      ·exact h3 (.inr (.inl e))
      ·exact h3 (.inr (.inr e))
      ·exact h6 e) hm hsm w
   ·exact refTgaRead_m0 h18 h3 hm hsm w
theorem refTgaReadC {s : ByteArray} (hsm : s.size ≤ 1099511627776) (w : World) : Calls Tryz.prog 72 #[.string s] w fun e w' => e = .returned (tgaRdV s) ∧ Below w.heap.size w w' := refTgaReadA (by omega) w
end Go.Proofs.YtlehkgkomjojmaaGreat
