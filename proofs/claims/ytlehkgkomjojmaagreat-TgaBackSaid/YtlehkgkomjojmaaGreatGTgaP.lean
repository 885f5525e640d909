/- The document's Read of entries; a pixel's size and colour of TGA's, the document's. -/
import Derived.Test.YtlehkgkomjojmaaGreatGTgaO
import Derived.Test.YtlehkgkomjojmaaGreatGScaler
import Derived.Deep.OwnRows
namespace Go.Proofs.YtlehkgkomjojmaaGreat
open Go.RowKit
set_option linter.unusedVariables false
set_option linter.unusedSimpArgs false

theorem prod_inT {m s p : Nat} (h : m * s = p) (hp : p ≤ 1099511627776) : IntKind.i64.wrap ((m : Int) * (s : Int)) = (p : Int) := by
 have e : (m : Int) * (s : Int) = (p : Int) := by rw [← h]; exact (Int.natCast_mul m s).symm
 rw [e]
 exact IntWalk.i64_in _ (by omega)
set_option maxRecDepth 100000 in
set_option maxHeartbeats 2000000 in
theorem refRead10 {w : World} {s : ByteArray} {n z : Nat} {k : Int} (hk : psize k = (z : Int)) (hz : 1 ≤ z) (hs : s.size ≤ 100000) (hn : n ≤ 100000) :
  Calls Tryz.prog 127 #[.string s, .int .i64 (n : Int), .int .i64 k] w fun e w' => ∃ c g cap, e = .returned (.slice (some ⟨g, 0, none⟩) c cap) ∧ OwnsQ w' w.heap.size (.slice (some ⟨g, 0, none⟩) c cap) (ents k z s c) ∧ c * z ≤ s.size ∧ c ≤ n ∧ (c = n ∨ s.size < (c + 1) * z) ∧ Below w.heap.size w w' := by
 have hz4 : z ≤ 4 := by have := (psize_four (k := k)).2; omega
 have HS0 := fun w => refSize_any k w
 rw [hk] at HS0
 have HS := Lib.hid HS0
 have HK : Hid (psize k = (z : Int)) := Lib.hid hk
 have HO : Hid (OwnsQ (w.alloc (.cells #[] 68)) w.heap.size (.slice (some ⟨w.heap.size, 0, none⟩) 0 0) []) := Lib.hid (World.ownsRow_made w #[] 0 (Nat.le_refl _) (Nat.zero_le _) rfl)
 have HB0 : Hid (Below w.heap.size w (w.alloc (.cells #[] 68))) := Lib.hid ((Below.refl _ _).alloc (Nat.le_refl _) _)
 clear hk HS0
 go_enter Tryz.func127, Tryz.ntmps127
 go_wp2_with (go_at_call 126; refine (HS.out _).mono ?_; rintro e w9 ⟨rfl, rfl⟩)
 go_loopg [7, 9] n (fun gh v x wr => ∃ (j g cap : Nat), x = .int .i64 (j : Int) ∧ v = .slice (some ⟨g, 0, none⟩) j cap ∧ Hid (n = j + gh) ∧ j ≤ n ∧ Hid (OwnsQ wr w.heap.size (.slice (some ⟨g, 0, none⟩) j cap) (ents k z s j) ∧ j * z ≤ s.size ∧ Below w.heap.size w wr))
 case atStart => exact ⟨0, w.heap.size, 0, rfl, rfl, Lib.hid (by omega), by omega, Lib.hid ⟨HO.out, by omega, HB0.out⟩⟩
 case round =>
  obtain ⟨j, g, cap, rfl, rfl, hg, hj, hH⟩ := hrel
  by_cases hlt : j < n
  ·have j0 : (j : Int) < (n : Int) := by omega
   obtain ⟨p, hp⟩ : ∃ p, j * z = p := ⟨_, rfl⟩
   have hps : p ≤ s.size := by rw [← hp]; exact hH.out.2.1
   have HWP := prod_inT hp (by omega)
   have HPP := Lib.hid hp
   clear hp
   by_cases hsh : s.size < p + z
   ·have t1 : (s.size : Int) - (p : Int) < (z : Int) := by omega
    go_wp2_with fail
    go_ret
    exact ⟨j, g, cap, rfl, hH.out.1, hH.out.2.1, hj, .inr (by rw [Nat.add_mul, Nat.one_mul, HPP.out]; exact hsh), hH.out.2.2⟩
   ·have t1 : (z : Int) ≤ (s.size : Int) - (p : Int) := by omega
    have t2 : (p : Int) ≤ (s.size : Int) := by omega
    obtain ⟨x, hx⟩ : ∃ x, x = s.extract p s.size := ⟨_, rfl⟩
    have hxz : x.size = s.size - p := by rw [hx]; simp
    have hxl : x.data.toList = s.data.toList.drop p := by
     rw [hx, extract_list', List.take_of_length_le]
     rw [List.length_drop, list_len]
     omega
    obtain ⟨qc, hqc⟩ : ∃ qc, qc = ecol k (s.data.toList.drop p) := ⟨_, rfl⟩
    have HE0 := fun w => refEntry_any x k w (by rw [HK.out]; omega) (by rw [HK.out, hxz]; omega) (by omega)
    rw [hxl, ← hqc] at HE0
    simp only [Qc.v] at HE0
    rw [hx] at HE0
    have HE := Lib.hid HE0
    have HX : Hid (ents k z s (j + 1) = ents k z s j ++ [qc]) := Lib.hid (by rw [ents_succ, hqc, HPP.out])
    have own3 := hH.out.1
    have hb3 := hH.out.2.2
    have hll : (ents k z s j).length + [qc].length < 1099511627776 := by rw [ents_len]; simp; omega
    clear hx hxz hxl hqc HE0
    go_wp2_with (first
     | (go_at_call 181; refine (HE.out _).mono ?_; rintro e w4 ⟨rfl, b4⟩; have own4 := (own3.below b4).alloc (.cells #[.int .u8 (qc.r.toNat : Int), .int .u8 (qc.g.toNat : Int), .int .u8 (qc.b.toNat : Int), .int .u8 (qc.a.toNat : Int)] 68); have hb4 := below_next hb3 b4; have z4 := hb4.size; have hb4' := hb4.alloc z4 (.cells #[.int .u8 (qc.r.toNat : Int), .int .u8 (qc.g.toNat : Int), .int .u8 (qc.b.toNat : Int), .int .u8 (qc.a.toNat : Int)] 68))
     | (at_builtin; refine wpList_append_cols rfl (.tmp 28) (.tmp 36) rfl w.heap.size _ _ rfl own4 w4.heap.size 1 1 [qc] rfl rfl ?_ hll ?_ ?_; (exact q_new w4 qc); (simp; omega); intro v5 w5 own5 hb5 _; have hb5' := hb4'.trans hb5))
    obtain ⟨g5, cap5, hv5⟩ : ∃ g5 cap5, v5 = .slice (some ⟨g5, 0, none⟩) (j + 1) cap5 := by
     rcases own5.form with ⟨_, h⟩ | ⟨g5, cap5, h, _⟩
     ·simp at h
     ·exact ⟨g5, cap5, by rw [h, List.length_append, ents_len]; rfl⟩
    subst hv5
    go_roundg (n - (j + 1))
    case measure => have := hg.out; omega
    case rel => exact ⟨j + 1, g5, cap5, by go_num, rfl, Lib.hid (by have := hg.out; omega), by omega, Lib.hid ⟨by rw [HX.out]; exact own5, by rw [Nat.add_mul, Nat.one_mul, HPP.out]; omega, hb5'⟩⟩
  ·obtain rfl : j = n := by omega
   have j0 : decide ((j : Int) < (j : Int)) = false := decide_eq_false (by omega)
   go_wp2_with fail
   go_ret
   exact ⟨j, g, cap, rfl, hH.out.1, hH.out.2.1, Nat.le_refl _, .inl rfl, hH.out.2.2⟩

theorem ents_tga (s : ByteArray) (h : TgaHd) (a : Nat) : ∀ n j, tgaEnts s h n (a + j * tgaEntry h.entry) = (List.range n).map fun i => ecol (tgaKind h.entry : Int) (s.data.toList.drop (a + (j + i) * tgaEntry h.entry)) := by
 intro n
 induction n with
 | zero => intro j; rfl
 | succ n ih =>
  intro j
  unfold tgaEnts
  have e : a + j * tgaEntry h.entry + tgaEntry h.entry = a + (j + 1) * tgaEntry h.entry := by rw [Nat.add_mul]; omega
  rw [e, ih (j + 1), List.range_succ_eq_map, List.map_cons, List.map_map]
  congr 1
  apply List.map_congr_left
  intro i _
  simp only [Function.comp, Nat.succ_eq_add_one]
  rw [show j + 1 + i = j + (i + 1) by omega]
theorem ents_of {s : ByteArray} {h : TgaHd} {a : Nat} (n : Nat) (ha : a ≤ s.size) : ents (tgaKind h.entry : Int) (tgaEntry h.entry) (s.extract a s.size) n = tgaEnts s h n a := by
 have e := ents_tga s h a n 0
 rw [Nat.zero_mul, Nat.add_zero] at e
 rw [e]
 unfold ents
 apply List.map_congr_left
 intro i _
 rw [extract_list', List.take_of_length_le (by rw [List.length_drop, list_len]; omega), List.drop_drop, Nat.zero_add]
theorem refTgaSize {h : TgaHd} {z : Nat} (hd : h.depth = 8 ∨ TgaCol h.depth) (hz : h.size = z) (w : World) : Calls Tryz.prog 128 #[tRV h] w fun e w' => e = .returned (.int .i64 (z : Int)) ∧ Below w.heap.size w w' := by
 unfold TgaHd.size at hz
 unfold tRV tRdV
 generalize (if h.map = true then (1 : Int) else 0) = mi
 have HBL := Lib.hid ((Below.refl w.heap.size w).alloc (Nat.le_refl _) (.cells #[.int .i64 (h.name : Int), .int .i64 mi, .int .i64 (h.typ : Int), .int .i64 (h.first : Int), .int .i64 (h.count : Int), .int .i64 (h.entry : Int), .int .i64 (h.W : Int), .int .i64 (h.H : Int), .int .i64 (h.depth : Int), .int .i64 (h.alpha : Int), .bool h.left, .bool h.top, .int .i64 0, .int .i64 0] 133))
 by_cases h15 : h.depth = 15
 ·have hz2 : z = 2 := by rw [h15] at hz; omega
  subst hz2
  have x : ((h.depth : Int) == 15) = true := by rw [h15]; rfl
  clear hz h15 hd
  go_enter Tryz.func128, Tryz.ntmps128
  go_wp2_with fail
  go_ret
  exact ⟨rfl, HBL.out⟩
 ·have x : ((h.depth : Int) == 15) = false := beq_eq_false_iff_ne.2 (by omega)
  have hzz : h.depth / 8 = z := by unfold TgaCol at hd; omega
  have e1 : (h.depth : Int) / 8 = (z : Int) := by omega
  have e2 : (h.depth : Int).tdiv 8 = (z : Int) := by rw [Int.tdiv_eq_ediv_of_nonneg (by omega)]; exact e1
  have eB : (h.depth : Int) ≤ 32 := by unfold TgaCol at hd; omega
  clear hz h15 hd hzz
  go_enter Tryz.func128, Tryz.ntmps128
  go_wp2_with fail
  go_ret
  exact ⟨rfl, HBL.out⟩
set_option maxRecDepth 100000 in
set_option maxHeartbeats 4000000 in
theorem refTgaColor {b : ByteArray} {n al : Nat} {q : Qc} (hc : TgaCol n) (hb : tgaEntry n ≤ b.size) (hs : b.size ≤ 1073741824) (hq : tgaQb b n al = q) (w : World) :
  Calls Tryz.prog 182 #[.string b, .int .i64 (n : Int), .int .i64 (al : Int)] w fun e w' => e = .returned q.v ∧ Below w.heap.size w w' := by
 obtain ⟨hk, hz, hz4⟩ := tgaKind_size hc
 have HE := Lib.hid (fun w => refEntry_any b (tgaKind n : Int) w (by rw [hk]; omega) (by rw [hk]; omega) hs)
 have HK := Lib.hid (fun w => refTgaKind (n := n) rfl w)
 obtain ⟨qe, hqe⟩ : ∃ qe, ecol (tgaKind n : Int) b.data.toList = qe := ⟨_, rfl⟩
 have HQA : Hid (n = 16 → qe.a = 255) := Lib.hid (fun e => by rw [← hqe, e]; rfl)
 unfold tgaQb at hq
 rw [hqe] at HE hq
 unfold Qc.v at HE
 obtain ⟨k, hkk⟩ : ∃ k : Int, (tgaKind n : Int) = k := ⟨_, rfl⟩
 rw [hkk] at HE HK
 have I0 : Q0 (w.alloc (.cells #[.int .u8 0, .int .u8 0, .int .u8 0, .int .u8 0] 68)) w.heap.size := Blk.new _ _ _
 have B0 : Below w.heap.size w (w.alloc (.cells #[.int .u8 0, .int .u8 0, .int .u8 0, .int .u8 0] 68)) := (Below.refl _ _).alloc (Nat.le_refl _) _
 have HI := Lib.hid (And.intro I0 B0)
 have HQ := Lib.hid hq
 clear hk hz hz4 hqe hkk hq I0 B0
 have hb1 : tgaEntry n ≤ b.size := hb
 clear hb
 rcases hc with rfl | rfl | rfl | rfl
 ·have hq2 := HQ.out
  rw [if_neg (by omega), if_neg (by omega)] at hq2
  subst hq2
  go_enter Tryz.func182, Tryz.ntmps182
  go_upto_region 2 with (first
   | (go_at_call 181; refine (HE.out _).mono ?_; rintro e w4 ⟨rfl, b4⟩)
   | (go_at_call 125; refine (HK.out _).mono ?_; rintro e w3 ⟨rfl, rfl⟩))
  have Q4 : Q0 w4 w.heap.size := Blk.below HI.out.1 b4 (Blk.lt HI.out.1)
  have B5 : Below w.heap.size w (w4.alloc (.cells #[.int .u8 (qe.r.toNat : Int), .int .u8 (qe.g.toNat : Int), .int .u8 (qe.b.toNat : Int), .int .u8 (qe.a.toNat : Int)] 68)) := (below_next HI.out.2 b4).alloc (Nat.le_of_lt (Blk.lt Q4)) _
  have Q5 : Q0 (w4.alloc (.cells #[.int .u8 (qe.r.toNat : Int), .int .u8 (qe.g.toNat : Int), .int .u8 (qe.b.toNat : Int), .int .u8 (qe.a.toNat : Int)] 68)) w.heap.size := Blk.alloc Q4 _
  have C5 : Blk (w4.alloc (.cells #[.int .u8 (qe.r.toNat : Int), .int .u8 (qe.g.toNat : Int), .int .u8 (qe.b.toNat : Int), .int .u8 (qe.a.toNat : Int)] 68)) w4.heap.size 68 #[.int .u8 (qe.r.toNat : Int), .int .u8 (qe.g.toNat : Int), .int .u8 (qe.b.toNat : Int), .int .u8 (qe.a.toNat : Int)] := Blk.new _ _ _
  have hlt := Blk.lt Q4
  generalize w4.alloc (.cells #[.int .u8 (qe.r.toNat : Int), .int .u8 (qe.g.toNat : Int), .int .u8 (qe.b.toNat : Int), .int .u8 (qe.a.toNat : Int)] 68) = w5 at B5 Q5 C5 ⊢
  generalize w4.heap.size = q8 at C5 hlt ⊢
  have hne : w.heap.size ≠ q8 := by omega
  have hne2 : q8 ≠ w.heap.size := by omega
  obtain ⟨c0, c1, c2, c3, z0, z1, z2, z3, cl⟩ := Q5.all
  have d0 := Blk.cell C5 0
  have d1 := Blk.cell C5 1
  have d2 := Blk.cell C5 2
  have d3 := Blk.cell C5 3
  have v3 := Blk.frozen C5 3
  have vl := Blk.lt C5
  have HB5 := Lib.hid B5
  have h8 : w.heap.size ≤ q8 := by omega
  clear b4 Q4 Q5 C5 B5
  go_wp2_with fail
  exact bodyPost_ret (v := .agg #[.int .u8 (qe.r.toNat : Int), .int .u8 (qe.g.toNat : Int), .int .u8 (qe.b.toNat : Int), .int .u8 (qe.a.toNat : Int)]) (by simp [results, Tryz.results182, go_sem, hne, hne2, c0, c1, c2, c3, d0, d1, d2, d3]) rfl ⟨rfl, Below.st4 HB5.out (Nat.le_refl _)⟩
 ·have i1 : (1 : Int) < (b.size : Int) := by have : tgaEntry 16 = 2 := rfl; omega
  have n1 : 1 < b.size := by omega
  obtain ⟨v, hv⟩ : ∃ v, bat b 1 = v := ⟨_, rfl⟩
  have hvb := bat_lt b 1
  rw [hv] at hvb
  have g1 : b[1].toNat = v := by rw [← hv, bat_eq n1]
  rw [hv] at HQ
  clear hv
  by_cases ha : al = 1
  ·have haI : (al : Int) = 1 := by omega
   by_cases hv8 : v < 128
   ·have hq2 := HQ.out
    rw [if_pos ⟨rfl, ha, hv8⟩] at hq2
    subst hq2
    have hvI : ¬ (128 : Int) ≤ (v : Int) := by omega
    go_enter Tryz.func182, Tryz.ntmps182
    go_upto_region 2 with (first
     | (go_at_call 181; refine (HE.out _).mono ?_; rintro e w4 ⟨rfl, b4⟩)
     | (go_at_call 125; refine (HK.out _).mono ?_; rintro e w3 ⟨rfl, rfl⟩))
    have Q4 : Q0 w4 w.heap.size := Blk.below HI.out.1 b4 (Blk.lt HI.out.1)
    have B5 : Below w.heap.size w (w4.alloc (.cells #[.int .u8 (qe.r.toNat : Int), .int .u8 (qe.g.toNat : Int), .int .u8 (qe.b.toNat : Int), .int .u8 (qe.a.toNat : Int)] 68)) := (below_next HI.out.2 b4).alloc (Nat.le_of_lt (Blk.lt Q4)) _
    have Q5 : Q0 (w4.alloc (.cells #[.int .u8 (qe.r.toNat : Int), .int .u8 (qe.g.toNat : Int), .int .u8 (qe.b.toNat : Int), .int .u8 (qe.a.toNat : Int)] 68)) w.heap.size := Blk.alloc Q4 _
    have C5 : Blk (w4.alloc (.cells #[.int .u8 (qe.r.toNat : Int), .int .u8 (qe.g.toNat : Int), .int .u8 (qe.b.toNat : Int), .int .u8 (qe.a.toNat : Int)] 68)) w4.heap.size 68 #[.int .u8 (qe.r.toNat : Int), .int .u8 (qe.g.toNat : Int), .int .u8 (qe.b.toNat : Int), .int .u8 (qe.a.toNat : Int)] := Blk.new _ _ _
    have hlt := Blk.lt Q4
    generalize w4.alloc (.cells #[.int .u8 (qe.r.toNat : Int), .int .u8 (qe.g.toNat : Int), .int .u8 (qe.b.toNat : Int), .int .u8 (qe.a.toNat : Int)] 68) = w5 at B5 Q5 C5 ⊢
    generalize w4.heap.size = q8 at C5 hlt ⊢
    have hne : w.heap.size ≠ q8 := by omega
    have hne2 : q8 ≠ w.heap.size := by omega
    obtain ⟨c0, c1, c2, c3, z0, z1, z2, z3, cl⟩ := Q5.all
    have d0 := Blk.cell C5 0
    have d1 := Blk.cell C5 1
    have d2 := Blk.cell C5 2
    have d3 := Blk.cell C5 3
    have v3 := Blk.frozen C5 3
    have vl := Blk.lt C5
    have HB5 := Lib.hid B5
    have h8 : w.heap.size ≤ q8 := by omega
    clear b4 Q4 Q5 C5 B5
    go_wp2_with fail
    exact bodyPost_ret (v := .agg #[.int .u8 (qe.r.toNat : Int), .int .u8 (qe.g.toNat : Int), .int .u8 (qe.b.toNat : Int), .int .u8 0]) (by simp [results, Tryz.results182, go_sem, hne, hne2, c0, c1, c2, c3, d0, d1, d2, d3]) rfl ⟨rfl, Below.st4 (below_set HB5.out h8) (Nat.le_refl _)⟩
   ·have hq2 := HQ.out
    rw [if_neg (fun e => hv8 e.2.2), if_neg (by omega)] at hq2
    subst hq2
    have hvI : (128 : Int) ≤ (v : Int) := by omega
    have HA := Lib.hid (HQA.out rfl)
    go_enter Tryz.func182, Tryz.ntmps182
    go_upto_region 2 with (first
     | (go_at_call 181; refine (HE.out _).mono ?_; rintro e w4 ⟨rfl, b4⟩)
     | (go_at_call 125; refine (HK.out _).mono ?_; rintro e w3 ⟨rfl, rfl⟩))
    have Q4 : Q0 w4 w.heap.size := Blk.below HI.out.1 b4 (Blk.lt HI.out.1)
    have B5 : Below w.heap.size w (w4.alloc (.cells #[.int .u8 (qe.r.toNat : Int), .int .u8 (qe.g.toNat : Int), .int .u8 (qe.b.toNat : Int), .int .u8 (qe.a.toNat : Int)] 68)) := (below_next HI.out.2 b4).alloc (Nat.le_of_lt (Blk.lt Q4)) _
    have Q5 : Q0 (w4.alloc (.cells #[.int .u8 (qe.r.toNat : Int), .int .u8 (qe.g.toNat : Int), .int .u8 (qe.b.toNat : Int), .int .u8 (qe.a.toNat : Int)] 68)) w.heap.size := Blk.alloc Q4 _
    have C5 : Blk (w4.alloc (.cells #[.int .u8 (qe.r.toNat : Int), .int .u8 (qe.g.toNat : Int), .int .u8 (qe.b.toNat : Int), .int .u8 (qe.a.toNat : Int)] 68)) w4.heap.size 68 #[.int .u8 (qe.r.toNat : Int), .int .u8 (qe.g.toNat : Int), .int .u8 (qe.b.toNat : Int), .int .u8 (qe.a.toNat : Int)] := Blk.new _ _ _
    have hlt := Blk.lt Q4
    generalize w4.alloc (.cells #[.int .u8 (qe.r.toNat : Int), .int .u8 (qe.g.toNat : Int), .int .u8 (qe.b.toNat : Int), .int .u8 (qe.a.toNat : Int)] 68) = w5 at B5 Q5 C5 ⊢
    generalize w4.heap.size = q8 at C5 hlt ⊢
    have hne : w.heap.size ≠ q8 := by omega
    have hne2 : q8 ≠ w.heap.size := by omega
    obtain ⟨c0, c1, c2, c3, z0, z1, z2, z3, cl⟩ := Q5.all
    have d0 := Blk.cell C5 0
    have d1 := Blk.cell C5 1
    have d2 := Blk.cell C5 2
    have d3 := Blk.cell C5 3
    have v3 := Blk.frozen C5 3
    have vl := Blk.lt C5
    have HB5 := Lib.hid B5
    have h8 : w.heap.size ≤ q8 := by omega
    clear b4 Q4 Q5 C5 B5
    go_wp2_with fail
    exact bodyPost_ret (v := .agg #[.int .u8 (qe.r.toNat : Int), .int .u8 (qe.g.toNat : Int), .int .u8 (qe.b.toNat : Int), .int .u8 255]) (by simp [results, Tryz.results182, go_sem, hne, hne2, c0, c1, c2, c3, d0, d1, d2, d3]) rfl ⟨by unfold Qc.v; rw [HA.out]; rfl, Below.st4 (below_set (below_set HB5.out h8) h8) (Nat.le_refl _)⟩
  ·have haI : ¬ (al : Int) = 1 := by omega
   have hq2 := HQ.out
   rw [if_neg (fun e => ha e.2.1), if_neg (by omega)] at hq2
   subst hq2
   go_enter Tryz.func182, Tryz.ntmps182
   go_upto_region 2 with (first
    | (go_at_call 181; refine (HE.out _).mono ?_; rintro e w4 ⟨rfl, b4⟩)
    | (go_at_call 125; refine (HK.out _).mono ?_; rintro e w3 ⟨rfl, rfl⟩))
   have Q4 : Q0 w4 w.heap.size := Blk.below HI.out.1 b4 (Blk.lt HI.out.1)
   have B5 : Below w.heap.size w (w4.alloc (.cells #[.int .u8 (qe.r.toNat : Int), .int .u8 (qe.g.toNat : Int), .int .u8 (qe.b.toNat : Int), .int .u8 (qe.a.toNat : Int)] 68)) := (below_next HI.out.2 b4).alloc (Nat.le_of_lt (Blk.lt Q4)) _
   have Q5 : Q0 (w4.alloc (.cells #[.int .u8 (qe.r.toNat : Int), .int .u8 (qe.g.toNat : Int), .int .u8 (qe.b.toNat : Int), .int .u8 (qe.a.toNat : Int)] 68)) w.heap.size := Blk.alloc Q4 _
   have C5 : Blk (w4.alloc (.cells #[.int .u8 (qe.r.toNat : Int), .int .u8 (qe.g.toNat : Int), .int .u8 (qe.b.toNat : Int), .int .u8 (qe.a.toNat : Int)] 68)) w4.heap.size 68 #[.int .u8 (qe.r.toNat : Int), .int .u8 (qe.g.toNat : Int), .int .u8 (qe.b.toNat : Int), .int .u8 (qe.a.toNat : Int)] := Blk.new _ _ _
   have hlt := Blk.lt Q4
   generalize w4.alloc (.cells #[.int .u8 (qe.r.toNat : Int), .int .u8 (qe.g.toNat : Int), .int .u8 (qe.b.toNat : Int), .int .u8 (qe.a.toNat : Int)] 68) = w5 at B5 Q5 C5 ⊢
   generalize w4.heap.size = q8 at C5 hlt ⊢
   have hne : w.heap.size ≠ q8 := by omega
   have hne2 : q8 ≠ w.heap.size := by omega
   obtain ⟨c0, c1, c2, c3, z0, z1, z2, z3, cl⟩ := Q5.all
   have d0 := Blk.cell C5 0
   have d1 := Blk.cell C5 1
   have d2 := Blk.cell C5 2
   have d3 := Blk.cell C5 3
   have v3 := Blk.frozen C5 3
   have vl := Blk.lt C5
   have HB5 := Lib.hid B5
   have h8 : w.heap.size ≤ q8 := by omega
   clear b4 Q4 Q5 C5 B5
   go_wp2_with fail
   exact bodyPost_ret (v := .agg #[.int .u8 (qe.r.toNat : Int), .int .u8 (qe.g.toNat : Int), .int .u8 (qe.b.toNat : Int), .int .u8 (qe.a.toNat : Int)]) (by simp [results, Tryz.results182, go_sem, hne, hne2, c0, c1, c2, c3, d0, d1, d2, d3]) rfl ⟨rfl, Below.st4 HB5.out (Nat.le_refl _)⟩
 ·have hq2 := HQ.out
  rw [if_neg (by omega), if_neg (by omega)] at hq2
  subst hq2
  go_enter Tryz.func182, Tryz.ntmps182
  go_upto_region 2 with (first
   | (go_at_call 181; refine (HE.out _).mono ?_; rintro e w4 ⟨rfl, b4⟩)
   | (go_at_call 125; refine (HK.out _).mono ?_; rintro e w3 ⟨rfl, rfl⟩))
  have Q4 : Q0 w4 w.heap.size := Blk.below HI.out.1 b4 (Blk.lt HI.out.1)
  have B5 : Below w.heap.size w (w4.alloc (.cells #[.int .u8 (qe.r.toNat : Int), .int .u8 (qe.g.toNat : Int), .int .u8 (qe.b.toNat : Int), .int .u8 (qe.a.toNat : Int)] 68)) := (below_next HI.out.2 b4).alloc (Nat.le_of_lt (Blk.lt Q4)) _
  have Q5 : Q0 (w4.alloc (.cells #[.int .u8 (qe.r.toNat : Int), .int .u8 (qe.g.toNat : Int), .int .u8 (qe.b.toNat : Int), .int .u8 (qe.a.toNat : Int)] 68)) w.heap.size := Blk.alloc Q4 _
  have C5 : Blk (w4.alloc (.cells #[.int .u8 (qe.r.toNat : Int), .int .u8 (qe.g.toNat : Int), .int .u8 (qe.b.toNat : Int), .int .u8 (qe.a.toNat : Int)] 68)) w4.heap.size 68 #[.int .u8 (qe.r.toNat : Int), .int .u8 (qe.g.toNat : Int), .int .u8 (qe.b.toNat : Int), .int .u8 (qe.a.toNat : Int)] := Blk.new _ _ _
  have hlt := Blk.lt Q4
  generalize w4.alloc (.cells #[.int .u8 (qe.r.toNat : Int), .int .u8 (qe.g.toNat : Int), .int .u8 (qe.b.toNat : Int), .int .u8 (qe.a.toNat : Int)] 68) = w5 at B5 Q5 C5 ⊢
  generalize w4.heap.size = q8 at C5 hlt ⊢
  have hne : w.heap.size ≠ q8 := by omega
  have hne2 : q8 ≠ w.heap.size := by omega
  obtain ⟨c0, c1, c2, c3, z0, z1, z2, z3, cl⟩ := Q5.all
  have d0 := Blk.cell C5 0
  have d1 := Blk.cell C5 1
  have d2 := Blk.cell C5 2
  have d3 := Blk.cell C5 3
  have v3 := Blk.frozen C5 3
  have vl := Blk.lt C5
  have HB5 := Lib.hid B5
  have h8 : w.heap.size ≤ q8 := by omega
  clear b4 Q4 Q5 C5 B5
  go_wp2_with fail
  exact bodyPost_ret (v := .agg #[.int .u8 (qe.r.toNat : Int), .int .u8 (qe.g.toNat : Int), .int .u8 (qe.b.toNat : Int), .int .u8 (qe.a.toNat : Int)]) (by simp [results, Tryz.results182, go_sem, hne, hne2, c0, c1, c2, c3, d0, d1, d2, d3]) rfl ⟨rfl, Below.st4 HB5.out (Nat.le_refl _)⟩
 ·by_cases ha : al = 0
  ·have haI : (al : Int) = 0 := by omega
   have hq2 := HQ.out
   rw [if_neg (by omega), if_pos ⟨rfl, ha⟩] at hq2
   subst hq2
   go_enter Tryz.func182, Tryz.ntmps182
   go_upto_region 2 with (first
    | (go_at_call 181; refine (HE.out _).mono ?_; rintro e w4 ⟨rfl, b4⟩)
    | (go_at_call 125; refine (HK.out _).mono ?_; rintro e w3 ⟨rfl, rfl⟩))
   have Q4 : Q0 w4 w.heap.size := Blk.below HI.out.1 b4 (Blk.lt HI.out.1)
   have B5 : Below w.heap.size w (w4.alloc (.cells #[.int .u8 (qe.r.toNat : Int), .int .u8 (qe.g.toNat : Int), .int .u8 (qe.b.toNat : Int), .int .u8 (qe.a.toNat : Int)] 68)) := (below_next HI.out.2 b4).alloc (Nat.le_of_lt (Blk.lt Q4)) _
   have Q5 : Q0 (w4.alloc (.cells #[.int .u8 (qe.r.toNat : Int), .int .u8 (qe.g.toNat : Int), .int .u8 (qe.b.toNat : Int), .int .u8 (qe.a.toNat : Int)] 68)) w.heap.size := Blk.alloc Q4 _
   have C5 : Blk (w4.alloc (.cells #[.int .u8 (qe.r.toNat : Int), .int .u8 (qe.g.toNat : Int), .int .u8 (qe.b.toNat : Int), .int .u8 (qe.a.toNat : Int)] 68)) w4.heap.size 68 #[.int .u8 (qe.r.toNat : Int), .int .u8 (qe.g.toNat : Int), .int .u8 (qe.b.toNat : Int), .int .u8 (qe.a.toNat : Int)] := Blk.new _ _ _
   have hlt := Blk.lt Q4
   generalize w4.alloc (.cells #[.int .u8 (qe.r.toNat : Int), .int .u8 (qe.g.toNat : Int), .int .u8 (qe.b.toNat : Int), .int .u8 (qe.a.toNat : Int)] 68) = w5 at B5 Q5 C5 ⊢
   generalize w4.heap.size = q8 at C5 hlt ⊢
   have hne : w.heap.size ≠ q8 := by omega
   have hne2 : q8 ≠ w.heap.size := by omega
   obtain ⟨c0, c1, c2, c3, z0, z1, z2, z3, cl⟩ := Q5.all
   have d0 := Blk.cell C5 0
   have d1 := Blk.cell C5 1
   have d2 := Blk.cell C5 2
   have d3 := Blk.cell C5 3
   have v3 := Blk.frozen C5 3
   have vl := Blk.lt C5
   have HB5 := Lib.hid B5
   have h8 : w.heap.size ≤ q8 := by omega
   clear b4 Q4 Q5 C5 B5
   go_wp2_with fail
   exact bodyPost_ret (v := .agg #[.int .u8 (qe.r.toNat : Int), .int .u8 (qe.g.toNat : Int), .int .u8 (qe.b.toNat : Int), .int .u8 255]) (by simp [results, Tryz.results182, go_sem, hne, hne2, c0, c1, c2, c3, d0, d1, d2, d3]) rfl ⟨rfl, Below.st4 (below_set HB5.out h8) (Nat.le_refl _)⟩
  ·have haI : ¬ (al : Int) = 0 := by omega
   have hq2 := HQ.out
   rw [if_neg (by omega), if_neg (fun e => ha e.2)] at hq2
   subst hq2
   go_enter Tryz.func182, Tryz.ntmps182
   go_upto_region 2 with (first
    | (go_at_call 181; refine (HE.out _).mono ?_; rintro e w4 ⟨rfl, b4⟩)
    | (go_at_call 125; refine (HK.out _).mono ?_; rintro e w3 ⟨rfl, rfl⟩))
   have Q4 : Q0 w4 w.heap.size := Blk.below HI.out.1 b4 (Blk.lt HI.out.1)
   have B5 : Below w.heap.size w (w4.alloc (.cells #[.int .u8 (qe.r.toNat : Int), .int .u8 (qe.g.toNat : Int), .int .u8 (qe.b.toNat : Int), .int .u8 (qe.a.toNat : Int)] 68)) := (below_next HI.out.2 b4).alloc (Nat.le_of_lt (Blk.lt Q4)) _
   have Q5 : Q0 (w4.alloc (.cells #[.int .u8 (qe.r.toNat : Int), .int .u8 (qe.g.toNat : Int), .int .u8 (qe.b.toNat : Int), .int .u8 (qe.a.toNat : Int)] 68)) w.heap.size := Blk.alloc Q4 _
   have C5 : Blk (w4.alloc (.cells #[.int .u8 (qe.r.toNat : Int), .int .u8 (qe.g.toNat : Int), .int .u8 (qe.b.toNat : Int), .int .u8 (qe.a.toNat : Int)] 68)) w4.heap.size 68 #[.int .u8 (qe.r.toNat : Int), .int .u8 (qe.g.toNat : Int), .int .u8 (qe.b.toNat : Int), .int .u8 (qe.a.toNat : Int)] := Blk.new _ _ _
   have hlt := Blk.lt Q4
   generalize w4.alloc (.cells #[.int .u8 (qe.r.toNat : Int), .int .u8 (qe.g.toNat : Int), .int .u8 (qe.b.toNat : Int), .int .u8 (qe.a.toNat : Int)] 68) = w5 at B5 Q5 C5 ⊢
   generalize w4.heap.size = q8 at C5 hlt ⊢
   have hne : w.heap.size ≠ q8 := by omega
   have hne2 : q8 ≠ w.heap.size := by omega
   obtain ⟨c0, c1, c2, c3, z0, z1, z2, z3, cl⟩ := Q5.all
   have d0 := Blk.cell C5 0
   have d1 := Blk.cell C5 1
   have d2 := Blk.cell C5 2
   have d3 := Blk.cell C5 3
   have v3 := Blk.frozen C5 3
   have vl := Blk.lt C5
   have HB5 := Lib.hid B5
   have h8 : w.heap.size ≤ q8 := by omega
   clear b4 Q4 Q5 C5 B5
   go_wp2_with fail
   exact bodyPost_ret (v := .agg #[.int .u8 (qe.r.toNat : Int), .int .u8 (qe.g.toNat : Int), .int .u8 (qe.b.toNat : Int), .int .u8 (qe.a.toNat : Int)]) (by simp [results, Tryz.results182, go_sem, hne, hne2, c0, c1, c2, c3, d0, d1, d2, d3]) rfl ⟨rfl, Below.st4 HB5.out (Nat.le_refl _)⟩
end Go.Proofs.YtlehkgkomjojmaaGreat
