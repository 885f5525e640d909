/- The document's Step of qoi: an entry; differences; the whole. -/
import Derived.Test.YtojobfnbakiicaaGreatQoiR
namespace Go.Proofs.YtojobfnbakiicaaGreat
open Go.RowKit
set_option linter.unusedVariables false
set_option linter.unusedSimpArgs false

set_option maxRecDepth 100000 in
set_option maxHeartbeats 40000000 in
theorem refStep_index {w : World} {s : ByteArray} {a gs cs : Nat} {last : Qc} {seen : List Qc} (ha : a < s.size) (hsm : s.size ≤ 1099511627776) (hS : QAt w gs 0 seen) (h64 : seen.length = 64) (hcs : 64 ≤ cs) (hb : bat s a < 64) : Calls Tryz.prog 66 #[.string s, .int .i64 (a : Int), last.v, .slice (some ⟨gs, 0, none⟩) 64 cs] w fun e w' => RStepPost s a last seen w w' e := by
  have hnd : qneed (bat s a) = 0 := by unfold qneed; rw [if_neg (by omega), if_neg (by omega), if_neg (by omega)]
  have hst : qstep s a last seen = (seen.getD (bat s a) qnone, 1) := by unfold qstep; rw [if_neg (by omega), if_neg (by omega), if_pos hb]
  unfold RStepPost
  rw [hnd, hst]
  simp only
  have hB := bat_lt s a
  have hsa : s[a].toNat = bat s a := (bat_eq ha).symm
  have haI : (a : Int) < (s.size : Int) := by omega
  have hszI : (s.size : Int) ≤ 1099511627776 := by omega
  clear hnd hst
  generalize bat s a = B at *
  obtain ⟨q, hq⟩ : ∃ q, seen[B]? = some q := ⟨seen[B]'(by omega), List.getElem?_eq_getElem _⟩
  have eq : seen.getD B qnone = q := by rw [List.getD_eq_getElem?_getD, hq]; rfl
  rw [eq]
  obtain ⟨s0, s1, s2, s3⟩ := hS B q hq
  rw [Nat.zero_add] at s0 s1 s2 s3
  have gl : gs < w.heap.size := World.block_lt_of_cell? w _ s0
  have b1 : ¬ (B : Int) = 254 := by omega
  have b2 : ¬ (B : Int) = 255 := by omega
  have b3 : ¬ (128 : Int) ≤ (B : Int) := by omega
  have b5 : ¬ (s.size : Int) < (a : Int) + 1 := by omega
  have b6 : (B : Int) < 64 := by omega
  have b8 : ¬ (4 : Int) ≤ 1 := by decide
  have k0 : (0 : Int) ≤ (B : Int) := Int.natCast_nonneg _
  have al : ∀ o1 o2 o3 j, (((w.alloc o1).alloc o2).alloc o3).cell? ⟨gs, j, none⟩ = w.cell? ⟨gs, j, none⟩ := fun o1 o2 o3 j => ((World.cell?_alloc_lt _ _ _ (by simp; omega)).trans (World.cell?_alloc_lt _ _ _ (by simp; omega))).trans (World.cell?_alloc_lt _ _ _ gl)
  have c0' : ∀ o1 o2 o3, (((w.alloc o1).alloc o2).alloc o3).cell? ⟨gs, B * 4, none⟩ = some (.int .u8 (q.r.toNat : Int)) := fun o1 o2 o3 => (al o1 o2 o3 _).trans s0
  have c1' : ∀ o1 o2 o3, (((w.alloc o1).alloc o2).alloc o3).cell? ⟨gs, B * 4 + 1, none⟩ = some (.int .u8 (q.g.toNat : Int)) := fun o1 o2 o3 => (al o1 o2 o3 _).trans s1
  have c2' : ∀ o1 o2 o3, (((w.alloc o1).alloc o2).alloc o3).cell? ⟨gs, B * 4 + 2, none⟩ = some (.int .u8 (q.b.toNat : Int)) := fun o1 o2 o3 => (al o1 o2 o3 _).trans s2
  have c3' : ∀ o1 o2 o3, (((w.alloc o1).alloc o2).alloc o3).cell? ⟨gs, B * 4 + 3, none⟩ = some (.int .u8 (q.a.toNat : Int)) := fun o1 o2 o3 => (al o1 o2 o3 _).trans s3
  clear al s0 s1 s2 s3
  clear hS hq eq hB h64 hcs hb
  have L0 : QB ((w.alloc (.cells #[.int .u8 (last.r.toNat : Int), .int .u8 (last.g.toNat : Int), .int .u8 (last.b.toNat : Int), .int .u8 (last.a.toNat : Int)] 67)).alloc (.cells #[.int .u8 0, .int .u8 0, .int .u8 0, .int .u8 0] 67)) w.heap.size last := Blk.alloc (Blk.new _ _ _) _
  obtain ⟨l0, l1, l2, l3, ll⟩ := QB.all L0
  unfold Qc.v
  go_enter Tryz.func66, Tryz.ntmps66
  go_wp2_with fail
  exact bodyPost_ret (v := .tuple #[(q : Qc).v, .int .i64 (1), .int .i64 1, .bool true]) (by simp [results, Tryz.results66, go_sem, Qc.v, b8_int]) rfl ⟨(((Below.refl _ _).alloc (Nat.le_refl _) _).alloc (by simp) _).alloc (by simp; omega) _, .inl ⟨by omega, rfl⟩⟩
set_option maxRecDepth 100000 in
set_option maxHeartbeats 40000000 in
theorem refStep_diff {w : World} {s : ByteArray} {a gs cs : Nat} {last : Qc} {seen : List Qc} (ha : a < s.size) (hsm : s.size ≤ 1099511627776) (hS : QAt w gs 0 seen) (h64 : seen.length = 64) (hcs : 64 ≤ cs) (hb1 : 64 ≤ bat s a) (hb2 : bat s a < 128) : Calls Tryz.prog 66 #[.string s, .int .i64 (a : Int), last.v, .slice (some ⟨gs, 0, none⟩) 64 cs] w fun e w' => RStepPost s a last seen w w' e := by
  have hnd : qneed (bat s a) = 0 := by unfold qneed; rw [if_neg (by omega), if_neg (by omega), if_neg (by omega)]
  have hst : qstep s a last seen = (qshift last (((bat s a % 64 / 16 : Nat) : Int) - 2) (((bat s a / 4 % 4 : Nat) : Int) - 2) (((bat s a % 4 : Nat) : Int) - 2), 1) := by unfold qstep; rw [if_neg (by omega), if_neg (by omega), if_neg (by omega), if_pos hb2]
  unfold RStepPost
  rw [hnd, hst]
  simp only
  have hB := bat_lt s a
  have hsa : s[a].toNat = bat s a := (bat_eq ha).symm
  have haI : (a : Int) < (s.size : Int) := by omega
  have hszI : (s.size : Int) ≤ 1099511627776 := by omega
  clear hnd hst
  generalize bat s a = B at *
  obtain ⟨K, hK⟩ : ∃ K, B = K + 64 := ⟨B - 64, by omega⟩
  subst hK
  have r0 : (((K + 64) % 64 / 16 : Nat) : Int) - 2 = ((K / 16 : Nat) : Int) - 2 := by omega
  have r1 : (((K + 64) / 4 % 4 : Nat) : Int) - 2 = ((K / 4 % 4 : Nat) : Int) - 2 := by omega
  have r2 : (((K + 64) % 4 : Nat) : Int) - 2 = ((K % 4 : Nat) : Int) - 2 := by omega
  rw [r0, r1, r2]
  clear r0 r1 r2
  have b1 : ¬ ((K + 64 : Nat) : Int) = 254 := by omega
  have b2 : ¬ ((K + 64 : Nat) : Int) = 255 := by omega
  have b3 : ¬ (128 : Int) ≤ ((K + 64 : Nat) : Int) := by omega
  have b5 : ¬ (s.size : Int) < (a : Int) + 1 := by omega
  have b6 : ¬ ((K + 64 : Nat) : Int) < 64 := by omega
  have b7 : ((K + 64 : Nat) : Int) < 128 := by omega
  have b8 : ¬ (4 : Int) ≤ 1 := by decide
  have hk64 : ((K + 64 : Nat) : Int) - 64 = (K : Int) := by omega
  have hKb : (K : Int) ≤ 63 := by omega
  obtain ⟨B, hB'⟩ : ∃ B, B = K + 64 := ⟨_, rfl⟩
  rw [← hB'] at hsa b1 b2 b3 b6 b7 hk64
  have HB' := Lib.hid hB'
  obtain ⟨R, hR⟩ : ∃ R, K / 16 = R := ⟨_, rfl⟩
  obtain ⟨M, hM⟩ : ∃ M, K / 4 = M := ⟨_, rfl⟩
  obtain ⟨G, hG⟩ : ∃ G, M % 4 = G := ⟨_, rfl⟩
  obtain ⟨L, hL⟩ : ∃ L, K % 4 = L := ⟨_, rfl⟩
  rw [hM, hG, hR, hL]
  have d1 : (K : Int).tdiv 16 = (R : Int) := by rw [Int.tdiv_eq_ediv_of_nonneg (by omega)]; omega
  have d1' : (K : Int) / 16 = (R : Int) := by omega
  have d2 : (K : Int).tdiv 4 = (M : Int) := by rw [Int.tdiv_eq_ediv_of_nonneg (by omega)]; omega
  have d2' : (K : Int) / 4 = (M : Int) := by omega
  have d3 : (M : Int).tmod 4 = (G : Int) := by rw [Int.tmod_eq_emod_of_nonneg (by omega)]; omega
  have d3' : (M : Int) % 4 = (G : Int) := by omega
  have d4 : (K : Int).tmod 4 = (L : Int) := by rw [Int.tmod_eq_emod_of_nonneg (by omega)]; omega
  have d4' : (K : Int) % 4 = (L : Int) := by omega
  have Rb : (R : Int) ≤ 3 := by omega
  have Gb : (G : Int) ≤ 3 := by omega
  have Lb : (L : Int) ≤ 3 := by omega
  have Mb : (M : Int) ≤ 15 := by omega
  have w1 := IntWalk.i64_in (R : Int) (by omega)
  have w2 := IntWalk.i64_in (M : Int) (by omega)
  have w3 := IntWalk.i64_in ((R : Int) - 2) (by omega)
  have w4 := IntWalk.i64_in ((G : Int) - 2) (by omega)
  have w5 := IntWalk.i64_in ((L : Int) - 2) (by omega)
  have A1 := Lib.hid (fun w => refAdd26 last.r (d := (R : Int) - 2) (by omega) w)
  have A2 := Lib.hid (fun w => refAdd26 last.g (d := (G : Int) - 2) (by omega) w)
  have A3 := Lib.hid (fun w => refAdd26 last.b (d := (L : Int) - 2) (by omega) w)
  have hsh : qshift last ((R : Int) - 2) ((G : Int) - 2) ((L : Int) - 2) = ⟨qadd last.r ((R : Int) - 2), qadd last.g ((G : Int) - 2), qadd last.b ((L : Int) - 2), last.a⟩ := rfl
  rw [hsh]
  clear hsh hR hM hG hL hB hb1 hb2 hS h64 hcs hB'
  generalize qadd last.r ((R : Int) - 2) = x0 at A1 ⊢
  generalize qadd last.g ((G : Int) - 2) = x1 at A2 ⊢
  generalize qadd last.b ((L : Int) - 2) = x2 at A3 ⊢
  have L0 : QB ((w.alloc (.cells #[.int .u8 (last.r.toNat : Int), .int .u8 (last.g.toNat : Int), .int .u8 (last.b.toNat : Int), .int .u8 (last.a.toNat : Int)] 67)).alloc (.cells #[.int .u8 0, .int .u8 0, .int .u8 0, .int .u8 0] 67)) w.heap.size last := Blk.alloc (Blk.new _ _ _) _
  obtain ⟨l0, l1, l2, l3, ll⟩ := QB.all L0
  unfold Qc.v
  go_enter Tryz.func66, Tryz.ntmps66
  go_upto_region 21 with fail
  have L2 : QB (((w.alloc (.cells #[.int .u8 (last.r.toNat : Int), .int .u8 (last.g.toNat : Int), .int .u8 (last.b.toNat : Int), .int .u8 (last.a.toNat : Int)] 67)).alloc (.cells #[.int .u8 0, .int .u8 0, .int .u8 0, .int .u8 0] 67)).alloc (.cells #[.int .u8 (last.r.toNat : Int), .int .u8 (last.g.toNat : Int), .int .u8 (last.b.toNat : Int), .int .u8 (last.a.toNat : Int)] 67)) (w.heap.size + 1 + 1) last := Blk.new_at _ _ _ (by simp)
  have R2 : QB (((w.alloc (.cells #[.int .u8 (last.r.toNat : Int), .int .u8 (last.g.toNat : Int), .int .u8 (last.b.toNat : Int), .int .u8 (last.a.toNat : Int)] 67)).alloc (.cells #[.int .u8 0, .int .u8 0, .int .u8 0, .int .u8 0] 67)).alloc (.cells #[.int .u8 (last.r.toNat : Int), .int .u8 (last.g.toNat : Int), .int .u8 (last.b.toNat : Int), .int .u8 (last.a.toNat : Int)] 67)) (w.heap.size + 1) qnone := Blk.alloc (Blk.new_at _ _ _ (by simp)) _
  have B2 : Below w.heap.size w (((w.alloc (.cells #[.int .u8 (last.r.toNat : Int), .int .u8 (last.g.toNat : Int), .int .u8 (last.b.toNat : Int), .int .u8 (last.a.toNat : Int)] 67)).alloc (.cells #[.int .u8 0, .int .u8 0, .int .u8 0, .int .u8 0] 67)).alloc (.cells #[.int .u8 (last.r.toNat : Int), .int .u8 (last.g.toNat : Int), .int .u8 (last.b.toNat : Int), .int .u8 (last.a.toNat : Int)] 67)) := (((Below.refl _ _).alloc (Nat.le_refl _) _).alloc (by simp) _).alloc (by simp; omega) _
  generalize (((w.alloc (.cells #[.int .u8 (last.r.toNat : Int), .int .u8 (last.g.toNat : Int), .int .u8 (last.b.toNat : Int), .int .u8 (last.a.toNat : Int)] 67)).alloc (.cells #[.int .u8 0, .int .u8 0, .int .u8 0, .int .u8 0] 67)).alloc (.cells #[.int .u8 (last.r.toNat : Int), .int .u8 (last.g.toNat : Int), .int .u8 (last.b.toNat : Int), .int .u8 (last.a.toNat : Int)] 67)) = w2' at L2 R2 B2 ⊢
  have hn1 : w.heap.size ≤ w.heap.size + 1 := by omega
  have hn2 : w.heap.size ≤ w.heap.size + 1 + 1 := by omega
  have hne : w.heap.size + 1 ≠ w.heap.size + 1 + 1 := by omega
  generalize w.heap.size + 1 + 1 = qb at L2 hn2 hne ⊢
  generalize w.heap.size + 1 = rb at R2 hn1 hne ⊢
  clear l0 l1 l2 l3 ll L0
  obtain ⟨l0, l1, l2, l3, ll⟩ := QB.all L2
  have z0 := Blk.frozen L2 0
  have z1 := Blk.frozen L2 1
  have z2 := Blk.frozen L2 2
  obtain ⟨e0, e1, e2, e3, el⟩ := QB.all R2
  have y0 := Blk.frozen R2 0
  have y1 := Blk.frozen R2 1
  have y2 := Blk.frozen R2 2
  have y3 := Blk.frozen R2 3
  have hne' := hne.symm
  have HL2 := Lib.hid L2
  have HR2 := Lib.hid R2
  have HB2 := Lib.hid B2
  clear L2 R2 B2
  go_cut [14] (fun v14 wc => v14 = .pointer (some ⟨qb, 0, none⟩) ∧ QB wc qb ⟨x0, x1, x2, last.a⟩ ∧ QB wc rb qnone ∧ Below w.heap.size w wc)
  case first =>
    go_region_with (first
      | (go_at_call_of 123 (Value.int .u8 (last.r.toNat : Int)); refine (A1.out _).mono ?_; rintro e wq ⟨rfl, rfl⟩)
      | (go_at_call_of 123 (Value.int .u8 (last.g.toNat : Int)); refine (A2.out _).mono ?_; rintro e wq ⟨rfl, rfl⟩)
      | (go_at_call_of 123 (Value.int .u8 (last.b.toNat : Int)); refine (A3.out _).mono ?_; rintro e wq ⟨rfl, rfl⟩))
    all_goals go_wp2_with fail
    all_goals
      go_meet
      case rel => exact ⟨rfl, (((Blk.set_ (Blk.drew HL2.out) 0 _).set_ 1 _).set_ 2 _).eq_ rfl, Blk.far (Blk.far (Blk.far (Blk.drew HR2.out) (p := ⟨qb, 0, none⟩) hne _) (p := ⟨qb, 1, none⟩) hne _) (p := ⟨qb, 2, none⟩) hne _, (below_set (below_set (below_set HB2.out hn2) hn2) hn2).drew⟩
  case rest =>
    obtain ⟨rfl, Q3, R3, B3⟩ := hcut
    clear l0 l1 l2 l3 ll z0 z1 z2 e0 e1 e2 e3 el y0 y1 y2 y3
    obtain ⟨l0, l1, l2, l3, ll⟩ := QB.all Q3
    obtain ⟨e0, e1, e2, e3, el⟩ := QB.all R3
    have y0 := Blk.frozen R3 0
    have y1 := Blk.frozen R3 1
    have y2 := Blk.frozen R3 2
    have y3 := Blk.frozen R3 3
    have HB3 := Lib.hid B3
    obtain ⟨w9, e9⟩ : ∃ w9, stQ wc rb 0 ⟨x0, x1, x2, last.a⟩ = w9 := ⟨_, rfl⟩
    have R9 : QB w9 rb ⟨x0, x1, x2, last.a⟩ := by
      rw [← e9]
      exact ((((Blk.set_ R3 0 _).set_ 1 _).set_ 2 _).set_ 3 _).eq_ rfl
    have B9 : Below w.heap.size w w9 := by
      rw [← e9]
      exact below_set4 B3 hn1
    unfold stQ at e9
    simp only [Nat.zero_add] at e9
    have HR9 := Lib.hid R9
    have HB9 := Lib.hid B9
    have E9 := Lib.hid e9
    clear Q3 R3 B3 R9 B9 e9
    go_wp2_with fail
    rw [E9.out]
    clear l0 l1 l2 l3 ll e0 e1 e2 e3 el y0 y1 y2 y3
    obtain ⟨l0, l1, l2, l3, ll⟩ := QB.all HR9.out
    exact bodyPost_ret (v := .tuple #[(⟨x0, x1, x2, last.a⟩ : Qc).v, .int .i64 1, .int .i64 1, .bool true]) (by simp [results, Tryz.results66, go_sem, Qc.v, l0, l1, l2, l3]) rfl ⟨HB9.out, .inl ⟨by omega, rfl⟩⟩
end Go.Proofs.YtojobfnbakiicaaGreat
