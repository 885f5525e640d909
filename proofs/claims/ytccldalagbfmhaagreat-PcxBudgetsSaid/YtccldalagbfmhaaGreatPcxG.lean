/- pcx: a pixel's colour, the other ways; the choice. -/
import Derived.Test.YtccldalagbfmhaaGreatPcxF
namespace Go.Proofs.YtccldalagbfmhaaGreat
open Go.RowKit
set_option linter.unusedVariables false
set_option linter.unusedSimpArgs false

set_option maxRecDepth 100000 in
set_option maxHeartbeats 4000000 in
theorem pcxPix3 {w : World} {rb bx q : Nat} {s : ByteArray} {h : PcxHd} {fv : Value} {b g d : Nat} {R : List Nat} {x : Nat} (ok : h.Ok) (P0 : PxW w rb bx q s h fv b g d R) (hb : h.bits ≠ 8) (hp : h.planes = 1) (hx : x < h.W) :
    Calls Tryz.prog 202 #[.func (.func 156) #[] #[.pointer (some ⟨rb, 0, none⟩)], .int .i64 (x : Int), .pointer (some ⟨bx, 0, none⟩)] w fun e w' => PixPost w w' s h R x e := by
  obtain ⟨hl, hN, _, _, h1⟩ := ok.sizes
  obtain ⟨_, _, hW⟩ := h1 hb
  have hrow : h.row = h.line := by unfold PcxHd.row; rw [hp, Nat.one_mul]
  have hx2 := ok.w2
  have C0 : Blk (w.alloc (.cells #[.int .u8 0, .int .u8 0, .int .u8 0, .int .u8 0] 131)) w.heap.size 131 #[.int .u8 0, .int .u8 0, .int .u8 0, .int .u8 0] := Blk.new _ _ _
  have B0 : Below w.heap.size w (w.alloc (.cells #[.int .u8 0, .int .u8 0, .int .u8 0, .int .u8 0] 131)) := (Below.refl _ _).alloc (Nat.le_refl _) _
  have P1 := P0.alloc (.cells #[.int .u8 0, .int .u8 0, .int .u8 0, .int .u8 0] 131)
  obtain ⟨v, hv⟩ : ∃ v, pcxBit R h.line 0 x = v := ⟨_, rfl⟩
  have hv1 : v ≤ 1 := by rw [← hv]; exact Nat.le_of_lt_succ (Nat.mod_lt _ (by decide))
  obtain ⟨z, hz⟩ : ∃ z, 255 * v = z := ⟨_, rfl⟩
  have hz8 : z < 256 := by omega
  have hq : Hid (Qc.v (pcxQ s h R x) = .agg #[.int .u8 (z : Int), .int .u8 (z : Int), .int .u8 (z : Int), .int .u8 255]) := Lib.hid (by
    unfold pcxQ
    rw [if_neg (by omega), if_neg hb, if_pos hp, hv, hz]
    unfold pcxGray Qc.v
    rw [ofNat8 hz8]
    rfl)
  generalize hw1 : w.alloc (.cells #[.int .u8 0, .int .u8 0, .int .u8 0, .int .u8 0] 131) = w1 at C0 B0 P1
  have HW1 := Lib.hid hw1
  have HP := Lib.hid (And.intro P1 (And.intro C0 B0))
  have HB := Lib.hid (pcxBitC (w := w1) (q := q) (rb := rb) (l := h.line) (pl := 0) (x := x) (Blk.cell P1.Q 4) (P1.rowC hN) P1.lt (by rw [P1.n]; omega) (by rw [P1.n]; exact hN) (by omega) hv)
  have cx : w1.cell? ⟨bx, 0, none⟩ = some (.pointer (some ⟨q, 0, none⟩)) := Blk.cell P1.x 0
  obtain ⟨d0, d1, d2, d3, z0, z1, z2, z3, dl⟩ := col4_all' C0
  have hvI : (v : Int) ≤ 1 := by omega
  have hzI : 255 * (v : Int) = (z : Int) := by omega
  have hz8I : (z : Int) < 256 := by omega
  have uz : IntKind.u8.wrap (z : Int) = (z : Int) := u8_in hz8
  clear hw1 P0 P1 C0 B0 hb hp hx ok hl hN h1 hW hrow hx2 hv hv1 hz hz8
  go_enter Tryz.func202, Tryz.ntmps202
  go_upto_region 1 with fail
  rw [HW1.out]
  go_wp2_with (go_at_call 203; refine HB.out.mono ?_; rintro e w' ⟨rfl, rfl⟩)
  exact bodyPost_ret (v := .tuple #[.agg #[.int .u8 (z : Int), .int .u8 (z : Int), .int .u8 (z : Int), .int .u8 255], .bool true]) (by simp [results, Tryz.results202, go_sem, d0, d1, d2, d3]) rfl ⟨by rw [hq.out], (below_set (below_set (below_set (below_set HP.out.2.2 (Nat.le_refl _)) (Nat.le_refl _)) (Nat.le_refl _)) (Nat.le_refl _))⟩
/-- the map's colours -/
def pcxMapL (s : ByteArray) : List Qc := (List.range 256).map fun i => pcxEnt s (s.size - 768 + 3 * i)
theorem pcxMapL_at (s : ByteArray) {i : Nat} (h : i < 256) : (pcxMapL s)[i]? = some (pcxEnt s (s.size - 768 + 3 * i)) := by
  unfold pcxMapL
  rw [List.getElem?_map, List.getElem?_range h]
  rfl
theorem Blk_drewP2 {w : World} {l b g d n : Nat} {L : List Qc} (P : PalHas w l b g d n L) : PalHas w.drew l b g d n L := by
  obtain ⟨h1, h2, rest, h3, h4⟩ := P
  exact ⟨Blk.drew h1, h2, rest, ⟨h3.blk.drew, h3.row.drew⟩, h4⟩
set_option maxRecDepth 100000 in
set_option maxHeartbeats 4000000 in
theorem pcxPix2 {w : World} {rb bx q : Nat} {s : ByteArray} {h : PcxHd} {fv : Value} {b g d : Nat} {R : List Nat} {x : Nat} {bl l lb ld : Nat} (ok : h.Ok) (P0 : PxW w rb bx q s h fv b g d R) (HBL0 : Blk w bl 62 #[.pointer (some ⟨l, 0, none⟩)]) (HPL0 : PalHas w l lb g ld 256 (pcxMapL s)) (hb : h.bits = 8) (hp : h.planes ≠ 3) (hx : x < h.W) :
    Calls Tryz.prog 200 #[.func (.func 156) #[] #[.pointer (some ⟨rb, 0, none⟩)], .int .i64 (x : Int), .pointer (some ⟨bl, 0, none⟩)] w fun e w' => PixPost w w' s h R x e := by
  obtain ⟨hl, hN, _, h2, _⟩ := ok.sizes
  obtain ⟨hp1, hW, hrow⟩ := h2 hb hp
  have C0 : Blk (w.alloc (.cells #[.int .u8 0, .int .u8 0, .int .u8 0, .int .u8 0] 131)) w.heap.size 131 #[.int .u8 0, .int .u8 0, .int .u8 0, .int .u8 0] := Blk.new _ _ _
  have B0 : Below w.heap.size w (w.alloc (.cells #[.int .u8 0, .int .u8 0, .int .u8 0, .int .u8 0] 131)) := (Below.refl _ _).alloc (Nat.le_refl _) _
  have P1 := P0.alloc (.cells #[.int .u8 0, .int .u8 0, .int .u8 0, .int .u8 0] 131)
  have HBL1 := Blk.alloc HBL0 (.cells #[.int .u8 0, .int .u8 0, .int .u8 0, .int .u8 0] 131)
  have HPL1 := HPL0.below ((Below.refl _ _).alloc (Nat.le_refl _) (.cells #[.int .u8 0, .int .u8 0, .int .u8 0, .int .u8 0] 131))
  obtain ⟨v, hv⟩ : ∃ v, R.getD x 0 = v := ⟨_, rfl⟩
  have hv8 : v < 256 := by rw [← hv]; exact getD_lt P0.lt _
  obtain ⟨qc, hqc⟩ : ∃ qc, pcxEnt s (s.size - 768 + 3 * v) = qc := ⟨_, rfl⟩
  have hmi : (pcxMapL s)[v]? = some qc := by rw [pcxMapL_at s hv8, hqc]
  have hq : Hid (Qc.v (pcxQ s h R x) = .agg #[.int .u8 (qc.r.toNat : Int), .int .u8 (qc.g.toNat : Int), .int .u8 (qc.b.toNat : Int), .int .u8 (qc.a.toNat : Int)]) := Lib.hid (by
    unfold pcxQ
    rw [if_neg hp, if_pos hb, hv, hqc]
    rfl)
  generalize hw1 : w.alloc (.cells #[.int .u8 0, .int .u8 0, .int .u8 0, .int .u8 0] 131) = w1 at C0 B0 P1 HBL1 HPL1
  have HW1 := Lib.hid hw1
  have HP := Lib.hid (And.intro P1 (And.intro C0 B0))
  have HBL := Lib.hid HBL1
  have HPL := Lib.hid HPL1
  have HMI := Lib.hid hmi
  have HR := Lib.hid (P1.drew.rowC hN)
  have HV := Lib.hid hv
  have hx1 : x < R.length := by rw [P0.n]; omega
  have cx : w1.cell? ⟨bl, 0, none⟩ = some (.pointer (some ⟨l, 0, none⟩)) := Blk.cell HBL1 0
  have hbc : bl ≠ w.heap.size := Blk.ne_ HBL1 C0 (by decide)
  clear hw1 P0 P1 C0 B0 HBL0 HPL0 HBL1 HPL1 hb hp hx ok hl hN h2 hp1 hW hrow hv hv8 hqc hmi
  go_enter Tryz.func200, Tryz.ntmps200
  go_upto_region 1 with fail
  rw [HW1.out]
  refine wp_region_held_drew (S := (fun w' => w'.cell? ⟨bl, 0, none⟩ = some (.pointer (some ⟨l, 0, none⟩)))) (by kernel_rfl) cx (fun hHeld => ?_)
  refine wpAnyH_take (i := 0) (v := ?_) rfl (by kernel_rfl) (by kernel_rfl) (by kernel_rfl) (fun _ _ _ h => h) (Or.inl ⟨by kernel_rfl, ?_⟩) (by assumption) ?_
  rotate_left
  · intro w hSw; (try dsimp only at hSw); go_simp; (try with_reducible rfl)
  (try simp only [Act.put, List.getElem_toArray, List.getElem_cons_succ, List.getElem_cons_zero, List.setIfInBounds_toArray, List.set_cons_zero, List.set_cons_succ])
  refine wpAnyH_take (i := 1) (v := ?_) rfl (by kernel_rfl) (by kernel_rfl) (by kernel_rfl) (fun _ _ _ h => h) (Or.inl ⟨by kernel_rfl, ?_⟩) (by assumption) ?_
  rotate_left
  · intro w hSw; (try dsimp only at hSw); go_simp; (try with_reducible rfl)
  (try simp only [Act.put, List.getElem_toArray, List.getElem_cons_succ, List.getElem_cons_zero, List.setIfInBounds_toArray, List.set_cons_zero, List.set_cons_succ])
  refine wpAnyH_take (i := 2) (v := ?_) rfl (by kernel_rfl) (by kernel_rfl) (by kernel_rfl) (fun _ _ _ h => h) (Or.inl ⟨by kernel_rfl, ?_⟩) (by assumption) ?_
  rotate_left
  · intro w hSw; (try dsimp only at hSw); go_simp; (try with_reducible rfl)
  (try simp only [Act.put, List.getElem_toArray, List.getElem_cons_succ, List.getElem_cons_zero, List.setIfInBounds_toArray, List.set_cons_zero, List.set_cons_succ])
  refine wpAnyH_ready (rs := [3]) (by kernel_rfl) (by simp) ?_
  refine AllReadyH.cons rfl (fun K hK => ?_) AllReadyH.nil
  go_simp
  refine (HR.out x v hx1 HV.out).mono ?_
  rintro e w3 ⟨rfl, rfl⟩
  refine hK.out _ _ cx (fun hHeld' => ?_)
  clear hK K hHeld
  have hHeld := hHeld'
  clear hHeld'
  (try simp only [Act.put, List.getElem_toArray, List.getElem_cons_succ, List.getElem_cons_zero, List.setIfInBounds_toArray, List.set_cons_zero, List.set_cons_succ])
  refine wpAnyH_ready (rs := [4]) (by kernel_rfl) (by simp) ?_
  refine AllReadyH.cons rfl (fun K hK => ?_) AllReadyH.nil
  go_simp
  refine (has_of (Blk_drewP2 HPL.out) (by decide) HMI.out).mono ?_
  rintro e w4 ⟨rfl, b4⟩
  have C4 := Blk.below (Blk.drew HP.out.2.1) b4 (Blk.lt HP.out.2.1)
  have X4 := Blk.below (Blk.drew HBL.out) b4 (Blk.lt HBL.out)
  have B4 := below_next HP.out.2.2.drew b4
  obtain ⟨d0, d1, d2, d3, z0, z1, z2, z3, dl⟩ := col4_all' C4
  refine hK.out _ _ (Blk.cell X4 0) (fun hHeld' => ?_)
  clear hK K hHeld
  have hHeld := hHeld'
  clear hHeld'
  (try simp only [Act.put, List.getElem_toArray, List.getElem_cons_succ, List.getElem_cons_zero, List.setIfInBounds_toArray, List.set_cons_zero, List.set_cons_succ])
  refine wpAnyH_take (i := 5) (v := ?_) rfl (by kernel_rfl) (by kernel_rfl) (by kernel_rfl) (fun _ _ _ h => h) (Or.inl ⟨by kernel_rfl, ?_⟩) (by assumption) ?_
  rotate_left
  · intro w hSw; (try dsimp only at hSw); go_simp; (try with_reducible rfl)
  (try simp only [Act.put, List.getElem_toArray, List.getElem_cons_succ, List.getElem_cons_zero, List.setIfInBounds_toArray, List.set_cons_zero, List.set_cons_succ])
  refine wpAnyH_take (i := 6) (v := ?_) rfl (by kernel_rfl) (by kernel_rfl) (by kernel_rfl) (fun _ _ _ h => h) (Or.inl ⟨by kernel_rfl, ?_⟩) (by assumption) ?_
  rotate_left
  · intro w hSw; (try dsimp only at hSw); go_simp; (try with_reducible rfl)
  (try simp only [Act.put, List.getElem_toArray, List.getElem_cons_succ, List.getElem_cons_zero, List.setIfInBounds_toArray, List.set_cons_zero, List.set_cons_succ])
  refine wpAnyH_ready (rs := [7]) (by kernel_rfl) (by simp) ?_
  refine AllReadyH.cons rfl (fun K hK => ?_) AllReadyH.nil
  go_simp
  refine hK.out _ _ (cell_other4 hbc (Blk.cell X4 0)) (fun hHeld' => ?_)
  clear hK K hHeld
  have hHeld := hHeld'
  clear hHeld'
  (try simp only [Act.put, List.getElem_toArray, List.getElem_cons_succ, List.getElem_cons_zero, List.setIfInBounds_toArray, List.set_cons_zero, List.set_cons_succ])
  refine wpAnyH_take (i := 8) (v := ?_) rfl (by kernel_rfl) (by kernel_rfl) (by kernel_rfl) (fun _ _ _ h => h) (Or.inl ⟨by kernel_rfl, ?_⟩) (by assumption) ?_
  rotate_left
  · intro w hSw; (try dsimp only at hSw); go_simp; (try with_reducible rfl)
  (try simp only [Act.put, List.getElem_toArray, List.getElem_cons_succ, List.getElem_cons_zero, List.setIfInBounds_toArray, List.set_cons_zero, List.set_cons_succ])
  refine wpAnyH_done (by kernel_rfl) ?_ _
  (try simp only [List.getElem_toArray, List.getElem_cons_succ, List.getElem_cons_zero, List.set_cons_zero, List.set_cons_succ])
  go_wp2_with fail
  exact bodyPost_ret (v := .tuple #[.agg #[.int .u8 (qc.r.toNat : Int), .int .u8 (qc.g.toNat : Int), .int .u8 (qc.b.toNat : Int), .int .u8 (qc.a.toNat : Int)], .bool true]) (by simp [results, Tryz.results200, go_sem, d0, d1, d2, d3]) rfl ⟨by rw [hq.out], (below_set (below_set (below_set (below_set B4 (Nat.le_refl _)) (Nat.le_refl _)) (Nat.le_refl _)) (Nat.le_refl _))⟩
end Go.Proofs.YtccldalagbfmhaaGreat
