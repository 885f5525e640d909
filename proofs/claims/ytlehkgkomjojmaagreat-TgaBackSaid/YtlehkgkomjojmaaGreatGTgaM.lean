/- tgahead: a head is told, and read. -/
import Derived.Test.YtlehkgkomjojmaaGreatSq
import Derived.Test.YtlehkgkomjojmaaGreatGTgaC
import Derived.Test.YtlehkgkomjojmaaGreatGTgaG
import Derived.Deep.RegionWith
namespace Go.Proofs.YtlehkgkomjojmaaGreat
open Go.RowKit
set_option linter.unusedVariables false
set_option linter.unusedSimpArgs false

set_option maxRecDepth 100000 in
theorem tga_f16 : ∀ v : Fin 256, ((v.1 &&& 16 ≠ 0) ↔ v.1 / 16 % 2 = 1) := by decide
set_option maxRecDepth 100000 in
theorem tga_f32 : ∀ v : Fin 256, ((v.1 &&& 32 ≠ 0) ↔ v.1 / 32 % 2 = 1) := by decide
theorem tga_flag16 {v : Nat} (h : v < 256) : (bits .and .u8 (v : Int) 16 != 0) = decide (v / 16 % 2 = 1) := by
 rw [show (16 : Int) = ((16 : Nat) : Int) from rfl, and8 v 16 h (by decide), Bool.eq_iff_iff, bne_iff_ne, decide_eq_true_iff, ← tga_f16 ⟨v, h⟩]
 show ((v &&& 16 : Nat) : Int) ≠ 0 ↔ v &&& 16 ≠ 0
 omega
theorem tga_flag32 {v : Nat} (h : v < 256) : (bits .and .u8 (v : Int) 32 != 0) = decide (v / 32 % 2 = 1) := by
 rw [show (32 : Int) = ((32 : Nat) : Int) from rfl, and8 v 32 h (by decide), Bool.eq_iff_iff, bne_iff_ne, decide_eq_true_iff, ← tga_f32 ⟨v, h⟩]
 show ((v &&& 32 : Nat) : Int) ≠ 0 ↔ v &&& 32 ≠ 0
 omega
def tHd0 : Value := .agg #[.int .i64 0, .bool false, .int .i64 0, .int .i64 0, .int .i64 0, .int .i64 0, .int .i64 0, .int .i64 0, .int .i64 0, .int .i64 0, .bool false, .bool false]
set_option maxRecDepth 100000 in
set_option maxHeartbeats 4000000 in
theorem tgaHeadC {b : ByteArray} {n m t W H d f : Nat} (hb : b.size = 18) (e0 : bat b 0 = n) (e1 : bat b 1 = m) (e2 : bat b 2 = t) (eW : le2 b 12 = W) (eH : le2 b 14 = H) (e16 : bat b 16 = d) (e17 : bat b 17 = f) (w : World) :
  Calls Tryz.prog 118 #[.string b] w fun e w' => e = .returned (tHdV (tgaHd b)) ∧ Below w.heap.size w w' := by
 have bn := bat_lt b 0
 have bm := bat_lt b 1
 have bt := bat_lt b 2
 have bd := bat_lt b 16
 have bf := bat_lt b 17
 have be := bat_lt b 7
 have bW := le2_lt b 12
 have bH := le2_lt b 14
 have b3 := le2_lt b 3
 have b5 := le2_lt b 5
 obtain ⟨c, e5⟩ : ∃ c, le2 b 5 = c := ⟨_, rfl⟩
 obtain ⟨fi, e3⟩ : ∃ c, le2 b 3 = c := ⟨_, rfl⟩
 obtain ⟨en, e7⟩ : ∃ c, bat b 7 = c := ⟨_, rfl⟩
 have hv : tHdV (tgaHd b) = .agg #[.int .i64 (n : Int), .bool (decide (m = 1)), .int .i64 (t : Int), .int .i64 (((if m = 1 then fi else 0) : Nat) : Int), .int .i64 (((if m = 1 then c else 0) : Nat) : Int), .int .i64 (((if m = 1 then en else 0) : Nat) : Int), .int .i64 (W : Int), .int .i64 (H : Int), .int .i64 (d : Int), .int .i64 ((f % 16 : Nat) : Int), .bool (decide (f / 16 % 2 = 1)), .bool (decide (f / 32 % 2 = 1))] := by
  unfold tHdV tgaHd
  rw [e0, e1, e2, e3, e5, e7, eW, eH, e16, e17]
 rw [hv]
 rw [e0] at bn
 rw [e1] at bm
 rw [e2] at bt
 rw [e16] at bd
 rw [e17] at bf
 rw [e7] at be
 rw [eW] at bW
 rw [eH] at bH
 rw [e3] at b3
 rw [e5] at b5
 have H12 := Lib.hid (fun w => tgaWordC (x := b) (a := 12) (by omega) (by omega) eW w)
 have H14 := Lib.hid (fun w => tgaWordC (x := b) (a := 14) (by omega) (by omega) eH w)
 have H5 := Lib.hid (fun w => tgaWordC (x := b) (a := 5) (by omega) (by omega) e5 w)
 have H3 := Lib.hid (fun w => tgaWordC (x := b) (a := 3) (by omega) (by omega) e3 w)
 have g0 := tgaB_int b (by omega) e0
 have g1 := tgaB_int b (by omega) e1
 have g2 := tgaB_int b (by omega) e2
 have g7 := tgaB_int b (by omega) e7
 have g16 := tgaB_int b (by omega) e16
 have g17 := tgaB_int b (by omega) e17
 obtain ⟨al, hal⟩ : ∃ al, f % 16 = al := ⟨_, rfl⟩
 have h15 : bits .and .i64 (f : Int) 15 = (al : Int) := by rw [← hal]; exact tga_and15 bf
 have h16 := tga_flag16 bf
 have h32 := tga_flag32 bf
 obtain ⟨lf, hlf⟩ : ∃ lf, decide (f / 16 % 2 = 1) = lf := ⟨_, rfl⟩
 obtain ⟨tp, htp⟩ : ∃ tp, decide (f / 32 % 2 = 1) = tp := ⟨_, rfl⟩
 rw [hlf] at h16
 rw [htp] at h32
 rw [hal, hlf, htp]
 obtain ⟨mb, hmb⟩ : ∃ mb, decide (m = 1) = mb := ⟨_, rfl⟩
 have hmI : ((m : Int) == 1) = mb := by rw [← hmb, Bool.eq_iff_iff, beq_iff_eq, decide_eq_true_iff]; omega
 have i0 : (0 : Int) < (b.size : Int) := by omega
 have i1 : (1 : Int) < (b.size : Int) := by omega
 have i2 : (2 : Int) < (b.size : Int) := by omega
 have i7 : (7 : Int) < (b.size : Int) := by omega
 have i16 : (16 : Int) < (b.size : Int) := by omega
 have i17 : (17 : Int) < (b.size : Int) := by omega
 have n0 : 0 < b.size := by omega
 have n1 : 1 < b.size := by omega
 have n2 : 2 < b.size := by omega
 have n7 : 7 < b.size := by omega
 have n16 : 16 < b.size := by omega
 have n17 : 17 < b.size := by omega
 have nB : (n : Int) < 256 := by omega
 have tB : (t : Int) < 256 := by omega
 have dB : (d : Int) < 256 := by omega
 have fB : (f : Int) < 256 := by omega
 have eB : (en : Int) < 256 := by omega
 have wr0 : IntKind.i64.wrap (n : Int) = (n : Int) := IntWalk.i64_in _ (by omega)
 have wr2 : IntKind.i64.wrap (t : Int) = (t : Int) := IntWalk.i64_in _ (by omega)
 have wr16 : IntKind.i64.wrap (d : Int) = (d : Int) := IntWalk.i64_in _ (by omega)
 have wr17 : IntKind.i64.wrap (f : Int) = (f : Int) := IntWalk.i64_in _ (by omega)
 have wr7 : IntKind.i64.wrap (en : Int) = (en : Int) := IntWalk.i64_in _ (by omega)
 have R0 : Blk (w.alloc (.cells #[.int .i64 0, .bool false, .int .i64 0, .int .i64 0, .int .i64 0, .int .i64 0, .int .i64 0, .int .i64 0, .int .i64 0, .int .i64 0, .bool false, .bool false] 121)) w.heap.size 121 #[.int .i64 0, .bool false, .int .i64 0, .int .i64 0, .int .i64 0, .int .i64 0, .int .i64 0, .int .i64 0, .int .i64 0, .int .i64 0, .bool false, .bool false] := Blk.new _ _ _
 have B0 : Below w.heap.size w (w.alloc (.cells #[.int .i64 0, .bool false, .int .i64 0, .int .i64 0, .int .i64 0, .int .i64 0, .int .i64 0, .int .i64 0, .int .i64 0, .int .i64 0, .bool false, .bool false] 121)) := (Below.refl _ _).alloc (Nat.le_refl _) _
 have HM := Lib.hid (And.intro hal (And.intro hlf (And.intro htp hmb)))
 rw [hmb]
 clear hv e0 e1 e2 e3 e5 e7 eW eH e16 e17 hal hlf htp hmb bn bm bt bd bf be
 go_enter Tryz.func118, Tryz.ntmps118
 go_upto_region 1 with fail
 generalize w.alloc (.cells #[.int .i64 0, .bool false, .int .i64 0, .int .i64 0, .int .i64 0, .int .i64 0, .int .i64 0, .int .i64 0, .int .i64 0, .int .i64 0, .bool false, .bool false] 121) = w1 at R0 B0 ⊢
 go_cut [3] from 4 to 32 (fun c3 wx => ∃ q3 : Nat, c3 = .pointer (some ⟨q3, 0, none⟩) ∧ Hid (Blk wx w.heap.size 121 #[.int .i64 0, .bool false, .int .i64 0, .int .i64 0, .int .i64 0, .int .i64 0, .int .i64 0, .int .i64 0, .int .i64 0, .int .i64 0, .bool false, .bool false] ∧ Below w.heap.size w wx ∧ Blk wx q3 121 #[.int .i64 (n : Int), .bool mb, .int .i64 (t : Int), .int .i64 0, .int .i64 0, .int .i64 0, .int .i64 (W : Int), .int .i64 (H : Int), .int .i64 (d : Int), .int .i64 (al : Int), .bool lf, .bool tp] ∧ w.heap.size < q3))
 case first =>
  have RD := Blk.drew R0
  have BD := B0.drew
  refine wp_region_held_drew (S := (fun _ => True)) (by kernel_rfl) trivial (fun hHeld => ?_)
  generalize w1.drew = w2 at RD BD hHeld ⊢
  clear R0 B0
  refine tk 0 ?_
  (try simp only [sps])
  refine tk 1 ?_
  (try simp only [sps])
  refine tk 2 ?_
  (try simp only [sps])
  refine tk 3 ?_
  (try simp only [sps])
  refine tk 4 ?_
  (try simp only [sps])
  refine tk 5 ?_
  (try simp only [sps])
  refine tk 6 ?_
  (try simp only [sps])
  refine tk 7 ?_
  (try simp only [sps])
  refine tk 8 ?_
  (try simp only [sps])
  refine tk 9 ?_
  (try simp only [sps])
  refine tk 11 ?_
  (try simp only [sps])
  refine tk 13 ?_
  (try simp only [sps])
  refine tk 14 ?_
  (try simp only [sps])
  refine tk 15 ?_
  (try simp only [sps])
  refine tk 16 ?_
  (try simp only [sps])
  refine tk 17 ?_
  (try simp only [sps])
  refine tk 18 ?_
  (try simp only [sps])
  refine tk 19 ?_
  (try simp only [sps])
  refine tk 20 ?_
  (try simp only [sps])
  refine tk 21 ?_
  (try simp only [sps])
  refine tk 22 ?_
  (try simp only [sps])
  refine tk 23 ?_
  (try simp only [sps])
  refine tk 24 ?_
  (try simp only [sps])
  refine tk 25 ?_
  (try simp only [sps])
  refine tk 26 ?_
  (try simp only [sps])
  refine tk 27 ?_
  (try simp only [sps])
  refine wpAnyH_ready (rs := [10, 29]) (by kernel_rfl) (by simp) ?_
  refine AllReadyH.cons rfl (fun K hK => ?_) (AllReadyH.cons rfl (fun K hK => ?_) AllReadyH.nil)
  ·go_simp
   refine (H12.out _).mono ?_
   rintro e wz ⟨rfl, rfl⟩
   have R11 := Blk.drew RD
   have B11 := BD.drew
   generalize w2.drew = w11 at R11 B11 ⊢
   refine hK.out _ _ trivial ?_
   clear hK K hHeld
   intro hHeld
   (try simp only [sps])
   refine wpAnyH_ready (rs := [12, 29]) (by kernel_rfl) (by simp) ?_
   refine AllReadyH.cons rfl (fun K hK => ?_) (AllReadyH.cons rfl (fun K hK => ?_) AllReadyH.nil)
   ·go_simp
    refine (H14.out _).mono ?_
    rintro e wz ⟨rfl, rfl⟩
    have R12 := Blk.drew R11
    have B12 := B11.drew
    generalize w11.drew = w12 at R12 B12 ⊢
    refine hK.out _ _ trivial ?_
    clear hK K hHeld
    intro hHeld
    (try simp only [sps])
    refine tk 28 ?_
    (try simp only [sps])
    refine rdy 29 (fun K hK => ?_)
    go_simp
    have R13 := Blk.alloc R12 (.cells #[.int .i64 0, .bool false, .int .i64 0, .int .i64 0, .int .i64 0, .int .i64 0, .int .i64 0, .int .i64 0, .int .i64 0, .int .i64 0, .bool false, .bool false] 121)
    have B13 := B12.alloc (by have := Blk.lt R12; omega) (.cells #[.int .i64 0, .bool false, .int .i64 0, .int .i64 0, .int .i64 0, .int .i64 0, .int .i64 0, .int .i64 0, .int .i64 0, .int .i64 0, .bool false, .bool false] 121)
    have N13 : Blk (w12.alloc (.cells #[.int .i64 0, .bool false, .int .i64 0, .int .i64 0, .int .i64 0, .int .i64 0, .int .i64 0, .int .i64 0, .int .i64 0, .int .i64 0, .bool false, .bool false] 121)) w12.heap.size 121 #[.int .i64 0, .bool false, .int .i64 0, .int .i64 0, .int .i64 0, .int .i64 0, .int .i64 0, .int .i64 0, .int .i64 0, .int .i64 0, .bool false, .bool false] := Blk.new _ _ _
    have hq3 : w.heap.size < w12.heap.size := Blk.lt R12
    generalize w12.alloc (.cells #[.int .i64 0, .bool false, .int .i64 0, .int .i64 0, .int .i64 0, .int .i64 0, .int .i64 0, .int .i64 0, .int .i64 0, .int .i64 0, .bool false, .bool false] 121) = w13 at R13 B13 N13 ⊢
    generalize w12.heap.size = q3 at N13 hq3 ⊢
    refine hK.out _ _ trivial ?_
    clear hK K hHeld
    intro hHeld
    (try simp only [sps])
    have v0 := Blk.frozen N13 0
    have u0 := Blk.cell N13 0
    have v1 := Blk.frozen N13 1
    have u1 := Blk.cell N13 1
    have v2 := Blk.frozen N13 2
    have u2 := Blk.cell N13 2
    have v3 := Blk.frozen N13 3
    have u3 := Blk.cell N13 3
    have v4 := Blk.frozen N13 4
    have u4 := Blk.cell N13 4
    have v5 := Blk.frozen N13 5
    have u5 := Blk.cell N13 5
    have v6 := Blk.frozen N13 6
    have u6 := Blk.cell N13 6
    have v7 := Blk.frozen N13 7
    have u7 := Blk.cell N13 7
    have v8 := Blk.frozen N13 8
    have u8 := Blk.cell N13 8
    have v9 := Blk.frozen N13 9
    have u9 := Blk.cell N13 9
    have v10 := Blk.frozen N13 10
    have u10 := Blk.cell N13 10
    have v11 := Blk.frozen N13 11
    have u11 := Blk.cell N13 11
    have ul := Blk.lt N13
    refine rdy 30 (fun K hK => ?_)
    go_simp
    have R9 : Blk (((((((((((((w13).setCell ⟨q3, 0, none⟩ (.int .i64 (n : Int))).setCell ⟨q3, 1, none⟩ (.bool mb)).setCell ⟨q3, 2, none⟩ (.int .i64 (t : Int))).setCell ⟨q3, 3, none⟩ (.int .i64 0)).setCell ⟨q3, 4, none⟩ (.int .i64 0)).setCell ⟨q3, 5, none⟩ (.int .i64 0)).setCell ⟨q3, 6, none⟩ (.int .i64 (W : Int))).setCell ⟨q3, 7, none⟩ (.int .i64 (H : Int))).setCell ⟨q3, 8, none⟩ (.int .i64 (d : Int))).setCell ⟨q3, 9, none⟩ (.int .i64 (al : Int))).setCell ⟨q3, 10, none⟩ (.bool lf)).setCell ⟨q3, 11, none⟩ (.bool tp)) w.heap.size 121 #[.int .i64 0, .bool false, .int .i64 0, .int .i64 0, .int .i64 0, .int .i64 0, .int .i64 0, .int .i64 0, .int .i64 0, .int .i64 0, .bool false, .bool false] := Blk.far (Blk.far (Blk.far (Blk.far (Blk.far (Blk.far (Blk.far (Blk.far (Blk.far (Blk.far (Blk.far (Blk.far (R13) (p := ⟨q3, 0, none⟩) (Nat.ne_of_lt hq3) _) (p := ⟨q3, 1, none⟩) (Nat.ne_of_lt hq3) _) (p := ⟨q3, 2, none⟩) (Nat.ne_of_lt hq3) _) (p := ⟨q3, 3, none⟩) (Nat.ne_of_lt hq3) _) (p := ⟨q3, 4, none⟩) (Nat.ne_of_lt hq3) _) (p := ⟨q3, 5, none⟩) (Nat.ne_of_lt hq3) _) (p := ⟨q3, 6, none⟩) (Nat.ne_of_lt hq3) _) (p := ⟨q3, 7, none⟩) (Nat.ne_of_lt hq3) _) (p := ⟨q3, 8, none⟩) (Nat.ne_of_lt hq3) _) (p := ⟨q3, 9, none⟩) (Nat.ne_of_lt hq3) _) (p := ⟨q3, 10, none⟩) (Nat.ne_of_lt hq3) _) (p := ⟨q3, 11, none⟩) (Nat.ne_of_lt hq3) _
    have B9 : Below w.heap.size w (((((((((((((w13).setCell ⟨q3, 0, none⟩ (.int .i64 (n : Int))).setCell ⟨q3, 1, none⟩ (.bool mb)).setCell ⟨q3, 2, none⟩ (.int .i64 (t : Int))).setCell ⟨q3, 3, none⟩ (.int .i64 0)).setCell ⟨q3, 4, none⟩ (.int .i64 0)).setCell ⟨q3, 5, none⟩ (.int .i64 0)).setCell ⟨q3, 6, none⟩ (.int .i64 (W : Int))).setCell ⟨q3, 7, none⟩ (.int .i64 (H : Int))).setCell ⟨q3, 8, none⟩ (.int .i64 (d : Int))).setCell ⟨q3, 9, none⟩ (.int .i64 (al : Int))).setCell ⟨q3, 10, none⟩ (.bool lf)).setCell ⟨q3, 11, none⟩ (.bool tp)) := below_set (below_set (below_set (below_set (below_set (below_set (below_set (below_set (below_set (below_set (below_set (below_set (B13) (Nat.le_of_lt hq3)) (Nat.le_of_lt hq3)) (Nat.le_of_lt hq3)) (Nat.le_of_lt hq3)) (Nat.le_of_lt hq3)) (Nat.le_of_lt hq3)) (Nat.le_of_lt hq3)) (Nat.le_of_lt hq3)) (Nat.le_of_lt hq3)) (Nat.le_of_lt hq3)) (Nat.le_of_lt hq3)) (Nat.le_of_lt hq3)
    have N9 : Blk (((((((((((((w13).setCell ⟨q3, 0, none⟩ (.int .i64 (n : Int))).setCell ⟨q3, 1, none⟩ (.bool mb)).setCell ⟨q3, 2, none⟩ (.int .i64 (t : Int))).setCell ⟨q3, 3, none⟩ (.int .i64 0)).setCell ⟨q3, 4, none⟩ (.int .i64 0)).setCell ⟨q3, 5, none⟩ (.int .i64 0)).setCell ⟨q3, 6, none⟩ (.int .i64 (W : Int))).setCell ⟨q3, 7, none⟩ (.int .i64 (H : Int))).setCell ⟨q3, 8, none⟩ (.int .i64 (d : Int))).setCell ⟨q3, 9, none⟩ (.int .i64 (al : Int))).setCell ⟨q3, 10, none⟩ (.bool lf)).setCell ⟨q3, 11, none⟩ (.bool tp)) q3 121 #[.int .i64 (n : Int), .bool mb, .int .i64 (t : Int), .int .i64 0, .int .i64 0, .int .i64 0, .int .i64 (W : Int), .int .i64 (H : Int), .int .i64 (d : Int), .int .i64 (al : Int), .bool lf, .bool tp] := ((Blk.set_ ((Blk.set_ ((Blk.set_ ((Blk.set_ ((Blk.set_ ((Blk.set_ ((Blk.set_ ((Blk.set_ ((Blk.set_ ((Blk.set_ ((Blk.set_ ((Blk.set_ (N13) 0 _)) 1 _)) 2 _)) 3 _)) 4 _)) 5 _)) 6 _)) 7 _)) 8 _)) 9 _)) 10 _)) 11 _)).eq_ (by simp)
    refine hK.out _ _ trivial ?_
    clear hK K hHeld
    intro hHeld
    (try simp only [sps])
    refine wpAnyH_done (by kernel_rfl) ?_ _
    (try simp only [sps])
    clear v0 v1 v2 v3 v4 v5 v6 v7 v8 v9 v10 v11 u0 u1 u2 u3 u4 u5 u6 u7 u8 u9 u10 u11 ul
    go_wp2_with fail
    go_meet
    case rel => exact ⟨q3, rfl, Lib.hid ⟨R9, B9, N9, hq3⟩⟩
   ·go_simp
    have R14 := Blk.alloc R11 (.cells #[.int .i64 0, .bool false, .int .i64 0, .int .i64 0, .int .i64 0, .int .i64 0, .int .i64 0, .int .i64 0, .int .i64 0, .int .i64 0, .bool false, .bool false] 121)
    have B14 := B11.alloc (by have := Blk.lt R11; omega) (.cells #[.int .i64 0, .bool false, .int .i64 0, .int .i64 0, .int .i64 0, .int .i64 0, .int .i64 0, .int .i64 0, .int .i64 0, .int .i64 0, .bool false, .bool false] 121)
    have N14 : Blk (w11.alloc (.cells #[.int .i64 0, .bool false, .int .i64 0, .int .i64 0, .int .i64 0, .int .i64 0, .int .i64 0, .int .i64 0, .int .i64 0, .int .i64 0, .bool false, .bool false] 121)) w11.heap.size 121 #[.int .i64 0, .bool false, .int .i64 0, .int .i64 0, .int .i64 0, .int .i64 0, .int .i64 0, .int .i64 0, .int .i64 0, .int .i64 0, .bool false, .bool false] := Blk.new _ _ _
    have hq3 : w.heap.size < w11.heap.size := Blk.lt R11
    generalize w11.alloc (.cells #[.int .i64 0, .bool false, .int .i64 0, .int .i64 0, .int .i64 0, .int .i64 0, .int .i64 0, .int .i64 0, .int .i64 0, .int .i64 0, .bool false, .bool false] 121) = w14 at R14 B14 N14 ⊢
    generalize w11.heap.size = q3 at N14 hq3 ⊢
    refine hK.out _ _ trivial ?_
    clear hK K hHeld
    intro hHeld
    (try simp only [sps])
    refine rdy 12 (fun K hK => ?_)
    go_simp
    refine (H14.out _).mono ?_
    rintro e wz ⟨rfl, rfl⟩
    have R15 := Blk.drew R14
    have B15 := B14.drew
    have N15 := Blk.drew N14
    generalize w14.drew = w15 at R15 B15 N15 ⊢
    refine hK.out _ _ trivial ?_
    clear hK K hHeld
    intro hHeld
    (try simp only [sps])
    refine tk 28 ?_
    (try simp only [sps])
    have v0 := Blk.frozen N15 0
    have u0 := Blk.cell N15 0
    have v1 := Blk.frozen N15 1
    have u1 := Blk.cell N15 1
    have v2 := Blk.frozen N15 2
    have u2 := Blk.cell N15 2
    have v3 := Blk.frozen N15 3
    have u3 := Blk.cell N15 3
    have v4 := Blk.frozen N15 4
    have u4 := Blk.cell N15 4
    have v5 := Blk.frozen N15 5
    have u5 := Blk.cell N15 5
    have v6 := Blk.frozen N15 6
    have u6 := Blk.cell N15 6
    have v7 := Blk.frozen N15 7
    have u7 := Blk.cell N15 7
    have v8 := Blk.frozen N15 8
    have u8 := Blk.cell N15 8
    have v9 := Blk.frozen N15 9
    have u9 := Blk.cell N15 9
    have v10 := Blk.frozen N15 10
    have u10 := Blk.cell N15 10
    have v11 := Blk.frozen N15 11
    have u11 := Blk.cell N15 11
    have ul := Blk.lt N15
    refine rdy 30 (fun K hK => ?_)
    go_simp
    have R9 : Blk (((((((((((((w15).setCell ⟨q3, 0, none⟩ (.int .i64 (n : Int))).setCell ⟨q3, 1, none⟩ (.bool mb)).setCell ⟨q3, 2, none⟩ (.int .i64 (t : Int))).setCell ⟨q3, 3, none⟩ (.int .i64 0)).setCell ⟨q3, 4, none⟩ (.int .i64 0)).setCell ⟨q3, 5, none⟩ (.int .i64 0)).setCell ⟨q3, 6, none⟩ (.int .i64 (W : Int))).setCell ⟨q3, 7, none⟩ (.int .i64 (H : Int))).setCell ⟨q3, 8, none⟩ (.int .i64 (d : Int))).setCell ⟨q3, 9, none⟩ (.int .i64 (al : Int))).setCell ⟨q3, 10, none⟩ (.bool lf)).setCell ⟨q3, 11, none⟩ (.bool tp)) w.heap.size 121 #[.int .i64 0, .bool false, .int .i64 0, .int .i64 0, .int .i64 0, .int .i64 0, .int .i64 0, .int .i64 0, .int .i64 0, .int .i64 0, .bool false, .bool false] := Blk.far (Blk.far (Blk.far (Blk.far (Blk.far (Blk.far (Blk.far (Blk.far (Blk.far (Blk.far (Blk.far (Blk.far (R15) (p := ⟨q3, 0, none⟩) (Nat.ne_of_lt hq3) _) (p := ⟨q3, 1, none⟩) (Nat.ne_of_lt hq3) _) (p := ⟨q3, 2, none⟩) (Nat.ne_of_lt hq3) _) (p := ⟨q3, 3, none⟩) (Nat.ne_of_lt hq3) _) (p := ⟨q3, 4, none⟩) (Nat.ne_of_lt hq3) _) (p := ⟨q3, 5, none⟩) (Nat.ne_of_lt hq3) _) (p := ⟨q3, 6, none⟩) (Nat.ne_of_lt hq3) _) (p := ⟨q3, 7, none⟩) (Nat.ne_of_lt hq3) _) (p := ⟨q3, 8, none⟩) (Nat.ne_of_lt hq3) _) (p := ⟨q3, 9, none⟩) (Nat.ne_of_lt hq3) _) (p := ⟨q3, 10, none⟩) (Nat.ne_of_lt hq3) _) (p := ⟨q3, 11, none⟩) (Nat.ne_of_lt hq3) _
    have B9 : Below w.heap.size w (((((((((((((w15).setCell ⟨q3, 0, none⟩ (.int .i64 (n : Int))).setCell ⟨q3, 1, none⟩ (.bool mb)).setCell ⟨q3, 2, none⟩ (.int .i64 (t : Int))).setCell ⟨q3, 3, none⟩ (.int .i64 0)).setCell ⟨q3, 4, none⟩ (.int .i64 0)).setCell ⟨q3, 5, none⟩ (.int .i64 0)).setCell ⟨q3, 6, none⟩ (.int .i64 (W : Int))).setCell ⟨q3, 7, none⟩ (.int .i64 (H : Int))).setCell ⟨q3, 8, none⟩ (.int .i64 (d : Int))).setCell ⟨q3, 9, none⟩ (.int .i64 (al : Int))).setCell ⟨q3, 10, none⟩ (.bool lf)).setCell ⟨q3, 11, none⟩ (.bool tp)) := below_set (below_set (below_set (below_set (below_set (below_set (below_set (below_set (below_set (below_set (below_set (below_set (B15) (Nat.le_of_lt hq3)) (Nat.le_of_lt hq3)) (Nat.le_of_lt hq3)) (Nat.le_of_lt hq3)) (Nat.le_of_lt hq3)) (Nat.le_of_lt hq3)) (Nat.le_of_lt hq3)) (Nat.le_of_lt hq3)) (Nat.le_of_lt hq3)) (Nat.le_of_lt hq3)) (Nat.le_of_lt hq3)) (Nat.le_of_lt hq3)
    have N9 : Blk (((((((((((((w15).setCell ⟨q3, 0, none⟩ (.int .i64 (n : Int))).setCell ⟨q3, 1, none⟩ (.bool mb)).setCell ⟨q3, 2, none⟩ (.int .i64 (t : Int))).setCell ⟨q3, 3, none⟩ (.int .i64 0)).setCell ⟨q3, 4, none⟩ (.int .i64 0)).setCell ⟨q3, 5, none⟩ (.int .i64 0)).setCell ⟨q3, 6, none⟩ (.int .i64 (W : Int))).setCell ⟨q3, 7, none⟩ (.int .i64 (H : Int))).setCell ⟨q3, 8, none⟩ (.int .i64 (d : Int))).setCell ⟨q3, 9, none⟩ (.int .i64 (al : Int))).setCell ⟨q3, 10, none⟩ (.bool lf)).setCell ⟨q3, 11, none⟩ (.bool tp)) q3 121 #[.int .i64 (n : Int), .bool mb, .int .i64 (t : Int), .int .i64 0, .int .i64 0, .int .i64 0, .int .i64 (W : Int), .int .i64 (H : Int), .int .i64 (d : Int), .int .i64 (al : Int), .bool lf, .bool tp] := ((Blk.set_ ((Blk.set_ ((Blk.set_ ((Blk.set_ ((Blk.set_ ((Blk.set_ ((Blk.set_ ((Blk.set_ ((Blk.set_ ((Blk.set_ ((Blk.set_ ((Blk.set_ (N15) 0 _)) 1 _)) 2 _)) 3 _)) 4 _)) 5 _)) 6 _)) 7 _)) 8 _)) 9 _)) 10 _)) 11 _)).eq_ (by simp)
    refine hK.out _ _ trivial ?_
    clear hK K hHeld
    intro hHeld
    (try simp only [sps])
    refine wpAnyH_done (by kernel_rfl) ?_ _
    (try simp only [sps])
    clear v0 v1 v2 v3 v4 v5 v6 v7 v8 v9 v10 v11 u0 u1 u2 u3 u4 u5 u6 u7 u8 u9 u10 u11 ul
    go_wp2_with fail
    go_meet
    case rel => exact ⟨q3, rfl, Lib.hid ⟨R9, B9, N9, hq3⟩⟩
  ·go_simp
   have R16 := Blk.alloc RD (.cells #[.int .i64 0, .bool false, .int .i64 0, .int .i64 0, .int .i64 0, .int .i64 0, .int .i64 0, .int .i64 0, .int .i64 0, .int .i64 0, .bool false, .bool false] 121)
   have B16 := BD.alloc (by have := Blk.lt RD; omega) (.cells #[.int .i64 0, .bool false, .int .i64 0, .int .i64 0, .int .i64 0, .int .i64 0, .int .i64 0, .int .i64 0, .int .i64 0, .int .i64 0, .bool false, .bool false] 121)
   have N16 : Blk (w2.alloc (.cells #[.int .i64 0, .bool false, .int .i64 0, .int .i64 0, .int .i64 0, .int .i64 0, .int .i64 0, .int .i64 0, .int .i64 0, .int .i64 0, .bool false, .bool false] 121)) w2.heap.size 121 #[.int .i64 0, .bool false, .int .i64 0, .int .i64 0, .int .i64 0, .int .i64 0, .int .i64 0, .int .i64 0, .int .i64 0, .int .i64 0, .bool false, .bool false] := Blk.new _ _ _
   have hq3 : w.heap.size < w2.heap.size := Blk.lt RD
   generalize w2.alloc (.cells #[.int .i64 0, .bool false, .int .i64 0, .int .i64 0, .int .i64 0, .int .i64 0, .int .i64 0, .int .i64 0, .int .i64 0, .int .i64 0, .bool false, .bool false] 121) = w16 at R16 B16 N16 ⊢
   generalize w2.heap.size = q3 at N16 hq3 ⊢
   refine hK.out _ _ trivial ?_
   clear hK K hHeld
   intro hHeld
   (try simp only [sps])
   refine rdy 10 (fun K hK => ?_)
   go_simp
   refine (H12.out _).mono ?_
   rintro e wz ⟨rfl, rfl⟩
   have R17 := Blk.drew R16
   have B17 := B16.drew
   have N17 := Blk.drew N16
   generalize w16.drew = w17 at R17 B17 N17 ⊢
   refine hK.out _ _ trivial ?_
   clear hK K hHeld
   intro hHeld
   (try simp only [sps])
   refine rdy 12 (fun K hK => ?_)
   go_simp
   refine (H14.out _).mono ?_
   rintro e wz ⟨rfl, rfl⟩
   have R18 := Blk.drew R17
   have B18 := B17.drew
   have N18 := Blk.drew N17
   generalize w17.drew = w18 at R18 B18 N18 ⊢
   refine hK.out _ _ trivial ?_
   clear hK K hHeld
   intro hHeld
   (try simp only [sps])
   refine tk 28 ?_
   (try simp only [sps])
   have v0 := Blk.frozen N18 0
   have u0 := Blk.cell N18 0
   have v1 := Blk.frozen N18 1
   have u1 := Blk.cell N18 1
   have v2 := Blk.frozen N18 2
   have u2 := Blk.cell N18 2
   have v3 := Blk.frozen N18 3
   have u3 := Blk.cell N18 3
   have v4 := Blk.frozen N18 4
   have u4 := Blk.cell N18 4
   have v5 := Blk.frozen N18 5
   have u5 := Blk.cell N18 5
   have v6 := Blk.frozen N18 6
   have u6 := Blk.cell N18 6
   have v7 := Blk.frozen N18 7
   have u7 := Blk.cell N18 7
   have v8 := Blk.frozen N18 8
   have u8 := Blk.cell N18 8
   have v9 := Blk.frozen N18 9
   have u9 := Blk.cell N18 9
   have v10 := Blk.frozen N18 10
   have u10 := Blk.cell N18 10
   have v11 := Blk.frozen N18 11
   have u11 := Blk.cell N18 11
   have ul := Blk.lt N18
   refine rdy 30 (fun K hK => ?_)
   go_simp
   have R9 : Blk (((((((((((((w18).setCell ⟨q3, 0, none⟩ (.int .i64 (n : Int))).setCell ⟨q3, 1, none⟩ (.bool mb)).setCell ⟨q3, 2, none⟩ (.int .i64 (t : Int))).setCell ⟨q3, 3, none⟩ (.int .i64 0)).setCell ⟨q3, 4, none⟩ (.int .i64 0)).setCell ⟨q3, 5, none⟩ (.int .i64 0)).setCell ⟨q3, 6, none⟩ (.int .i64 (W : Int))).setCell ⟨q3, 7, none⟩ (.int .i64 (H : Int))).setCell ⟨q3, 8, none⟩ (.int .i64 (d : Int))).setCell ⟨q3, 9, none⟩ (.int .i64 (al : Int))).setCell ⟨q3, 10, none⟩ (.bool lf)).setCell ⟨q3, 11, none⟩ (.bool tp)) w.heap.size 121 #[.int .i64 0, .bool false, .int .i64 0, .int .i64 0, .int .i64 0, .int .i64 0, .int .i64 0, .int .i64 0, .int .i64 0, .int .i64 0, .bool false, .bool false] := Blk.far (Blk.far (Blk.far (Blk.far (Blk.far (Blk.far (Blk.far (Blk.far (Blk.far (Blk.far (Blk.far (Blk.far (R18) (p := ⟨q3, 0, none⟩) (Nat.ne_of_lt hq3) _) (p := ⟨q3, 1, none⟩) (Nat.ne_of_lt hq3) _) (p := ⟨q3, 2, none⟩) (Nat.ne_of_lt hq3) _) (p := ⟨q3, 3, none⟩) (Nat.ne_of_lt hq3) _) (p := ⟨q3, 4, none⟩) (Nat.ne_of_lt hq3) _) (p := ⟨q3, 5, none⟩) (Nat.ne_of_lt hq3) _) (p := ⟨q3, 6, none⟩) (Nat.ne_of_lt hq3) _) (p := ⟨q3, 7, none⟩) (Nat.ne_of_lt hq3) _) (p := ⟨q3, 8, none⟩) (Nat.ne_of_lt hq3) _) (p := ⟨q3, 9, none⟩) (Nat.ne_of_lt hq3) _) (p := ⟨q3, 10, none⟩) (Nat.ne_of_lt hq3) _) (p := ⟨q3, 11, none⟩) (Nat.ne_of_lt hq3) _
   have B9 : Below w.heap.size w (((((((((((((w18).setCell ⟨q3, 0, none⟩ (.int .i64 (n : Int))).setCell ⟨q3, 1, none⟩ (.bool mb)).setCell ⟨q3, 2, none⟩ (.int .i64 (t : Int))).setCell ⟨q3, 3, none⟩ (.int .i64 0)).setCell ⟨q3, 4, none⟩ (.int .i64 0)).setCell ⟨q3, 5, none⟩ (.int .i64 0)).setCell ⟨q3, 6, none⟩ (.int .i64 (W : Int))).setCell ⟨q3, 7, none⟩ (.int .i64 (H : Int))).setCell ⟨q3, 8, none⟩ (.int .i64 (d : Int))).setCell ⟨q3, 9, none⟩ (.int .i64 (al : Int))).setCell ⟨q3, 10, none⟩ (.bool lf)).setCell ⟨q3, 11, none⟩ (.bool tp)) := below_set (below_set (below_set (below_set (below_set (below_set (below_set (below_set (below_set (below_set (below_set (below_set (B18) (Nat.le_of_lt hq3)) (Nat.le_of_lt hq3)) (Nat.le_of_lt hq3)) (Nat.le_of_lt hq3)) (Nat.le_of_lt hq3)) (Nat.le_of_lt hq3)) (Nat.le_of_lt hq3)) (Nat.le_of_lt hq3)) (Nat.le_of_lt hq3)) (Nat.le_of_lt hq3)) (Nat.le_of_lt hq3)) (Nat.le_of_lt hq3)
   have N9 : Blk (((((((((((((w18).setCell ⟨q3, 0, none⟩ (.int .i64 (n : Int))).setCell ⟨q3, 1, none⟩ (.bool mb)).setCell ⟨q3, 2, none⟩ (.int .i64 (t : Int))).setCell ⟨q3, 3, none⟩ (.int .i64 0)).setCell ⟨q3, 4, none⟩ (.int .i64 0)).setCell ⟨q3, 5, none⟩ (.int .i64 0)).setCell ⟨q3, 6, none⟩ (.int .i64 (W : Int))).setCell ⟨q3, 7, none⟩ (.int .i64 (H : Int))).setCell ⟨q3, 8, none⟩ (.int .i64 (d : Int))).setCell ⟨q3, 9, none⟩ (.int .i64 (al : Int))).setCell ⟨q3, 10, none⟩ (.bool lf)).setCell ⟨q3, 11, none⟩ (.bool tp)) q3 121 #[.int .i64 (n : Int), .bool mb, .int .i64 (t : Int), .int .i64 0, .int .i64 0, .int .i64 0, .int .i64 (W : Int), .int .i64 (H : Int), .int .i64 (d : Int), .int .i64 (al : Int), .bool lf, .bool tp] := ((Blk.set_ ((Blk.set_ ((Blk.set_ ((Blk.set_ ((Blk.set_ ((Blk.set_ ((Blk.set_ ((Blk.set_ ((Blk.set_ ((Blk.set_ ((Blk.set_ ((Blk.set_ (N18) 0 _)) 1 _)) 2 _)) 3 _)) 4 _)) 5 _)) 6 _)) 7 _)) 8 _)) 9 _)) 10 _)) 11 _)).eq_ (by simp)
   refine hK.out _ _ trivial ?_
   clear hK K hHeld
   intro hHeld
   (try simp only [sps])
   refine wpAnyH_done (by kernel_rfl) ?_ _
   (try simp only [sps])
   clear v0 v1 v2 v3 v4 v5 v6 v7 v8 v9 v10 v11 u0 u1 u2 u3 u4 u5 u6 u7 u8 u9 u10 u11 ul
   go_wp2_with fail
   go_meet
   case rel => exact ⟨q3, rfl, Lib.hid ⟨R9, B9, N9, hq3⟩⟩
 case rest =>
  obtain ⟨q3, rfl, HX⟩ := hcut
  clear R0 B0
  obtain ⟨R9, B9, N9, hq3⟩ := HX.out
  have hne := Nat.ne_of_lt hq3
  have hne' := hne.symm
  have c1 := Blk.cell N9 1
  clear HX
  by_cases hm1 : m = 1
  ·have mt : mb = true := by have h1 := HM.out.2.2.2; rw [← h1]; exact decide_eq_true hm1
   subst mt
   go_upto_region 3 with fail
   have R20 := Blk.drew R9
   have B20 := B9.drew
   have N20 := Blk.drew N9
   refine wp_region_held_drew (S := (fun _ => True)) (by kernel_rfl) trivial (fun hHeld => ?_)
   generalize wc.drew = w20 at R20 B20 N20 hHeld ⊢
   clear R9 B9 N9 c1
   refine tk 0 ?_
   (try simp only [sps])
   refine tk 2 ?_
   (try simp only [sps])
   refine tk 4 ?_
   (try simp only [sps])
   refine tk 5 ?_
   (try simp only [sps])
   refine tk 6 ?_
   (try simp only [sps])
   refine rdy 1 (fun K hK => ?_)
   go_simp
   refine (H3.out _).mono ?_
   rintro e wz ⟨rfl, rfl⟩
   have R21 := Blk.drew R20
   have B21 := B20.drew
   have N21 := Blk.drew N20
   generalize w20.drew = w21 at R21 B21 N21 ⊢
   refine hK.out _ _ trivial ?_
   clear hK K hHeld
   intro hHeld
   (try simp only [sps])
   refine tk 7 ?_
   (try simp only [sps])
   refine rdy 3 (fun K hK => ?_)
   go_simp
   refine (H5.out _).mono ?_
   rintro e wz ⟨rfl, rfl⟩
   have R22 := Blk.drew R21
   have B22 := B21.drew
   have N22 := Blk.drew N21
   generalize w21.drew = w22 at R22 B22 N22 ⊢
   refine hK.out _ _ trivial ?_
   clear hK K hHeld
   intro hHeld
   (try simp only [sps])
   have v3 := Blk.frozen N22 3
   have u3 := Blk.cell N22 3
   have ul := Blk.lt N22
   refine rdy 8 (fun K hK => ?_)
   go_simp
   have R23 : Blk (w22.setCell ⟨q3, 3, none⟩ (.int .i64 (fi : Int))) w.heap.size 121 #[.int .i64 0, .bool false, .int .i64 0, .int .i64 0, .int .i64 0, .int .i64 0, .int .i64 0, .int .i64 0, .int .i64 0, .int .i64 0, .bool false, .bool false] := Blk.far R22 (p := ⟨q3, 3, none⟩) (Nat.ne_of_lt hq3) _
   have B23 : Below w.heap.size w (w22.setCell ⟨q3, 3, none⟩ (.int .i64 (fi : Int))) := below_set B22 (Nat.le_of_lt hq3)
   have N23 : Blk (w22.setCell ⟨q3, 3, none⟩ (.int .i64 (fi : Int))) q3 121 #[.int .i64 (n : Int), .bool true, .int .i64 (t : Int), .int .i64 (fi : Int), .int .i64 0, .int .i64 0, .int .i64 (W : Int), .int .i64 (H : Int), .int .i64 (d : Int), .int .i64 (al : Int), .bool lf, .bool tp] := (Blk.set_ N22 3 _).eq_ (by simp)
   clear v3 u3 ul
   generalize w22.setCell ⟨q3, 3, none⟩ (.int .i64 (fi : Int)) = w23 at R23 B23 N23 ⊢
   refine hK.out _ _ trivial ?_
   clear hK K hHeld
   intro hHeld
   (try simp only [sps])
   refine tk 9 ?_
   (try simp only [sps])
   have v4 := Blk.frozen N23 4
   have u4 := Blk.cell N23 4
   have ul := Blk.lt N23
   refine rdy 10 (fun K hK => ?_)
   go_simp
   have R24 : Blk (w23.setCell ⟨q3, 4, none⟩ (.int .i64 (c : Int))) w.heap.size 121 #[.int .i64 0, .bool false, .int .i64 0, .int .i64 0, .int .i64 0, .int .i64 0, .int .i64 0, .int .i64 0, .int .i64 0, .int .i64 0, .bool false, .bool false] := Blk.far R23 (p := ⟨q3, 4, none⟩) (Nat.ne_of_lt hq3) _
   have B24 : Below w.heap.size w (w23.setCell ⟨q3, 4, none⟩ (.int .i64 (c : Int))) := below_set B23 (Nat.le_of_lt hq3)
   have N24 : Blk (w23.setCell ⟨q3, 4, none⟩ (.int .i64 (c : Int))) q3 121 #[.int .i64 (n : Int), .bool true, .int .i64 (t : Int), .int .i64 (fi : Int), .int .i64 (c : Int), .int .i64 0, .int .i64 (W : Int), .int .i64 (H : Int), .int .i64 (d : Int), .int .i64 (al : Int), .bool lf, .bool tp] := (Blk.set_ N23 4 _).eq_ (by simp)
   clear v4 u4 ul
   generalize w23.setCell ⟨q3, 4, none⟩ (.int .i64 (c : Int)) = w24 at R24 B24 N24 ⊢
   refine hK.out _ _ trivial ?_
   clear hK K hHeld
   intro hHeld
   (try simp only [sps])
   refine tk 11 ?_
   (try simp only [sps])
   have v5 := Blk.frozen N24 5
   have u5 := Blk.cell N24 5
   have ul := Blk.lt N24
   refine rdy 12 (fun K hK => ?_)
   go_simp
   have R25 : Blk (w24.setCell ⟨q3, 5, none⟩ (.int .i64 (en : Int))) w.heap.size 121 #[.int .i64 0, .bool false, .int .i64 0, .int .i64 0, .int .i64 0, .int .i64 0, .int .i64 0, .int .i64 0, .int .i64 0, .int .i64 0, .bool false, .bool false] := Blk.far R24 (p := ⟨q3, 5, none⟩) (Nat.ne_of_lt hq3) _
   have B25 : Below w.heap.size w (w24.setCell ⟨q3, 5, none⟩ (.int .i64 (en : Int))) := below_set B24 (Nat.le_of_lt hq3)
   have N25 : Blk (w24.setCell ⟨q3, 5, none⟩ (.int .i64 (en : Int))) q3 121 #[.int .i64 (n : Int), .bool true, .int .i64 (t : Int), .int .i64 (fi : Int), .int .i64 (c : Int), .int .i64 (en : Int), .int .i64 (W : Int), .int .i64 (H : Int), .int .i64 (d : Int), .int .i64 (al : Int), .bool lf, .bool tp] := (Blk.set_ N24 5 _).eq_ (by simp)
   clear v5 u5 ul
   generalize w24.setCell ⟨q3, 5, none⟩ (.int .i64 (en : Int)) = w25 at R25 B25 N25 ⊢
   refine hK.out _ _ trivial ?_
   clear hK K hHeld
   intro hHeld
   (try simp only [sps])
   refine wpAnyH_done (by kernel_rfl) ?_ _
   (try simp only [sps])
   clear hHeld R20 R21 R22 R23 R24 N20 N21 N22 N23 N24 B20 B21 B22 B23 B24
   have r0 := Blk.cell R25 0
   have z0 := Blk.frozen R25 0
   have k0 := Blk.cell N25 0
   have r1 := Blk.cell R25 1
   have z1 := Blk.frozen R25 1
   have k1 := Blk.cell N25 1
   have r2 := Blk.cell R25 2
   have z2 := Blk.frozen R25 2
   have k2 := Blk.cell N25 2
   have r3 := Blk.cell R25 3
   have z3 := Blk.frozen R25 3
   have k3 := Blk.cell N25 3
   have r4 := Blk.cell R25 4
   have z4 := Blk.frozen R25 4
   have k4 := Blk.cell N25 4
   have r5 := Blk.cell R25 5
   have z5 := Blk.frozen R25 5
   have k5 := Blk.cell N25 5
   have r6 := Blk.cell R25 6
   have z6 := Blk.frozen R25 6
   have k6 := Blk.cell N25 6
   have r7 := Blk.cell R25 7
   have z7 := Blk.frozen R25 7
   have k7 := Blk.cell N25 7
   have r8 := Blk.cell R25 8
   have z8 := Blk.frozen R25 8
   have k8 := Blk.cell N25 8
   have r9 := Blk.cell R25 9
   have z9 := Blk.frozen R25 9
   have k9 := Blk.cell N25 9
   have r10 := Blk.cell R25 10
   have z10 := Blk.frozen R25 10
   have k10 := Blk.cell N25 10
   have r11 := Blk.cell R25 11
   have z11 := Blk.frozen R25 11
   have k11 := Blk.cell N25 11
   have rl := Blk.lt R25
   have kl := Blk.lt N25
   go_wp2_with fail
   exact bodyPost_ret (v := .agg #[.int .i64 (n : Int), .bool true, .int .i64 (t : Int), .int .i64 (fi : Int), .int .i64 (c : Int), .int .i64 (en : Int), .int .i64 (W : Int), .int .i64 (H : Int), .int .i64 (d : Int), .int .i64 (al : Int), .bool lf, .bool tp]) (by simp [results, Tryz.results118, go_sem, hne, hne', r0, k0, r1, k1, r2, k2, r3, k3, r4, k4, r5, k5, r6, k6, r7, k7, r8, k8, r9, k9, r10, k10, r11, k11]) rfl ⟨by simp only [if_pos hm1], below_set (below_set (below_set (below_set (below_set (below_set (below_set (below_set (below_set (below_set (below_set (below_set (B25) (Nat.le_refl _)) (Nat.le_refl _)) (Nat.le_refl _)) (Nat.le_refl _)) (Nat.le_refl _)) (Nat.le_refl _)) (Nat.le_refl _)) (Nat.le_refl _)) (Nat.le_refl _)) (Nat.le_refl _)) (Nat.le_refl _)) (Nat.le_refl _)⟩
  ·have mt : mb = false := by have h1 := HM.out.2.2.2; rw [← h1]; exact decide_eq_false hm1
   subst mt
   have r0 := Blk.cell R9 0
   have z0 := Blk.frozen R9 0
   have k0 := Blk.cell N9 0
   have r1 := Blk.cell R9 1
   have z1 := Blk.frozen R9 1
   have k1 := Blk.cell N9 1
   have r2 := Blk.cell R9 2
   have z2 := Blk.frozen R9 2
   have k2 := Blk.cell N9 2
   have r3 := Blk.cell R9 3
   have z3 := Blk.frozen R9 3
   have k3 := Blk.cell N9 3
   have r4 := Blk.cell R9 4
   have z4 := Blk.frozen R9 4
   have k4 := Blk.cell N9 4
   have r5 := Blk.cell R9 5
   have z5 := Blk.frozen R9 5
   have k5 := Blk.cell N9 5
   have r6 := Blk.cell R9 6
   have z6 := Blk.frozen R9 6
   have k6 := Blk.cell N9 6
   have r7 := Blk.cell R9 7
   have z7 := Blk.frozen R9 7
   have k7 := Blk.cell N9 7
   have r8 := Blk.cell R9 8
   have z8 := Blk.frozen R9 8
   have k8 := Blk.cell N9 8
   have r9 := Blk.cell R9 9
   have z9 := Blk.frozen R9 9
   have k9 := Blk.cell N9 9
   have r10 := Blk.cell R9 10
   have z10 := Blk.frozen R9 10
   have k10 := Blk.cell N9 10
   have r11 := Blk.cell R9 11
   have z11 := Blk.frozen R9 11
   have k11 := Blk.cell N9 11
   have rl := Blk.lt R9
   have kl := Blk.lt N9
   go_wp2_with fail
   exact bodyPost_ret (v := .agg #[.int .i64 (n : Int), .bool false, .int .i64 (t : Int), .int .i64 0, .int .i64 0, .int .i64 0, .int .i64 (W : Int), .int .i64 (H : Int), .int .i64 (d : Int), .int .i64 (al : Int), .bool lf, .bool tp]) (by simp [results, Tryz.results118, go_sem, hne, hne', r0, k0, r1, k1, r2, k2, r3, k3, r4, k4, r5, k5, r6, k6, r7, k7, r8, k8, r9, k9, r10, k10, r11, k11]) rfl ⟨by simp only [if_neg hm1], below_set (below_set (below_set (below_set (below_set (below_set (below_set (below_set (below_set (below_set (below_set (below_set (B9) (Nat.le_refl _)) (Nat.le_refl _)) (Nat.le_refl _)) (Nat.le_refl _)) (Nat.le_refl _)) (Nat.le_refl _)) (Nat.le_refl _)) (Nat.le_refl _)) (Nat.le_refl _)) (Nat.le_refl _)) (Nat.le_refl _)) (Nat.le_refl _)⟩
end Go.Proofs.YtlehkgkomjojmaaGreat
