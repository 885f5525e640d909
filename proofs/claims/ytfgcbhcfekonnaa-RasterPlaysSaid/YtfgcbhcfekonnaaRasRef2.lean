/- The document's raster: Flip. -/
import Derived.Test.YtfgcbhcfekonnaaRasRef
import Derived.Test.YtfgcbhcfekonnaaCols
namespace Go.Proofs.Ytfgcbhcfekonnaa
open Go.RowKit
set_option linter.unusedVariables false
set_option linter.unusedSimpArgs false

/-- where the k-th pixel comes from -/
def flipK (W H : Nat) (rows : Bool) (k : Nat) : Nat := if rows then (H - 1 - k / W) * W + k % W else k / W * W + (W - 1 - k % W)
def flipQ (L : List Qc) (W H : Nat) (rows : Bool) (j : Nat) : List Qc := (List.range j).map fun k => L.getD (flipK W H rows k) q0
theorem flipQ_succ (L : List Qc) (W H : Nat) (rows : Bool) (j : Nat) : flipQ L W H rows (j + 1) = flipQ L W H rows j ++ [L.getD (flipK W H rows j) q0] := by simp [flipQ, List.range_succ]
theorem flipQ_len (L : List Qc) (W H : Nat) (rows : Bool) (j : Nat) : (flipQ L W H rows j).length = j := by simp [flipQ]
theorem div_at {b W a : Nat} (h : a < W) : (b * W + a) / W = b ∧ (b * W + a) % W = a := by
  have hW : 0 < W := by omega
  exact ⟨by rw [Nat.mul_comm, Nat.mul_add_div hW, Nat.div_eq_of_lt h, Nat.add_zero], by rw [Nat.mul_comm, Nat.mul_add_mod, Nat.mod_eq_of_lt h]⟩
theorem row_in {r H n : Nat} (h : r < H) : r * n + n ≤ H * n := by
  have := Nat.mul_le_mul (show r + 1 ≤ H by omega) (Nat.le_refl n)
  rw [Nat.add_mul, Nat.one_mul] at this
  exact this
theorem OwnsQ.cap {w : World} {base g n c : Nat} {L : List Qc} (h : OwnsQ w base (.slice (some ⟨g, 0, none⟩) n c) L) : n ≤ c := by
  rcases h.2 with ⟨e, _⟩ | ⟨g', cap, cur, e, hb, hg, hc, _⟩
  · cases e
  · simp only [Value.slice.injEq, Option.some.injEq, Addr.mk.injEq] at e
    obtain ⟨_, rfl, rfl⟩ := e
    exact hc
def RZ (w : World) (k : Nat) : Prop := Blk w k 34 refZ
set_option maxRecDepth 100000 in
set_option maxHeartbeats 2000000 in
theorem refFlip7 {w : World} {W H n q c : Nat} {o : Bool} {L : List Qc} (rows : Bool) (hn : n = H * W) (hL : n = L.length) (hW1 : 1 ≤ W) (hW : W ≤ 16384) (hH : H ≤ 16384) (hq : QAt w q 0 L) :
    Calls Try.prog 49 #[.agg (refC (W : Int) (H : Int) q n c o), .bool rows] w fun e w' => ∃ q' c', e = .returned (.agg (refC (W : Int) (H : Int) q' n c' true)) ∧ QAt w' q' 0 (flipQ L W H rows n) ∧ w.heap.size ≤ q' ∧ n ≤ c' ∧ Below w.heap.size w w' := by
  unfold refC
  obtain ⟨wA, hwA⟩ : ∃ wA, wA = ((w.alloc (.cells (refC (W : Int) (H : Int) q n c o) 34)).alloc (.cells refZ 34)).alloc (.cells #[] 39) := ⟨_, rfl⟩
  have HI : Hid (RB wA w.heap.size (W : Int) (H : Int) q n c o ∧ RZ wA (w.heap.size + 1) ∧ OwnsQ wA w.heap.size (.slice (some ⟨w.heap.size + 2, 0, none⟩) 0 0) [] ∧ Below w.heap.size w wA) := Lib.hid (by
    subst hwA
    refine ⟨((Blk.new _ _ _).alloc _).alloc _, (Blk.new_at _ _ _ (by simp)).alloc _, ?_, (((Below.refl _ _).alloc (Nat.le_refl _) _).alloc (by simp) _).alloc (by simp; omega) _⟩
    have := World.ownsRow_made ((w.alloc (.cells (refC (W : Int) (H : Int) q n c o) 34)).alloc (.cells refZ 34)) (base := w.heap.size) (e := 39) (size := 4) #[] 0 (by simp; omega) (Nat.zero_le _) rfl
    simpa [OwnsQ, cq] using this)
  have HQ := Lib.hid hq
  have HN := Lib.hid hn
  have HLN := Lib.hid hL
  clear hq hn hL
  simp only [refC, refZ] at hwA
  go_enter Try.func49, Try.ntmps49
  go_wp2_with fail
  change Code.wp _ _ _ _ (((w.alloc (.cells #[.int .i64 (W : Int), .int .i64 (H : Int), .slice (some ⟨q, 0, none⟩) n c, .bool o] 34)).alloc (.cells #[.int .i64 0, .int .i64 0, .slice none 0 0, .bool false] 34)).alloc (.cells #[] 39))
  rw [← hwA]
  clear hwA
  go_loopg [5, 6, 7] H (fun gh v bv s7 wr => ∃ (bb g kk cap : Nat), bv = .int .i64 (bb : Int) ∧ v = .slice (some ⟨g, 0, none⟩) kk cap ∧ Hid (H = bb + gh) ∧ bb ≤ H ∧ Hid (kk = bb * W) ∧ Hid (OwnsQ wr w.heap.size (.slice (some ⟨g, 0, none⟩) kk cap) (flipQ L W H rows kk) ∧ RB wr w.heap.size (W : Int) (H : Int) q n c o ∧ RZ wr (w.heap.size + 1) ∧ Below w.heap.size w wr))
  case atStart => exact ⟨0, w.heap.size + 2, 0, 0, rfl, rfl, Lib.hid (by omega), by omega, Lib.hid (by omega), Lib.hid ⟨HI.out.2.2.1, HI.out.1, HI.out.2.1, HI.out.2.2.2⟩⟩
  case round =>
    obtain ⟨bb, g, kk, cap, rfl, rfl, hg, hbb, hkk, hX⟩ := hrel
    obtain ⟨G, hGe⟩ : ∃ G, G = gk := ⟨_, rfl⟩
    subst hGe
    by_cases hlt : bb < H
    · have b0 : (bb : Int) < (H : Int) := by omega
      have hrow := Lib.hid (row_in (n := W) hlt)
      have f1 : wr.cell? ⟨w.heap.size, 1, none⟩ = some (.int .i64 (H : Int)) := hX.out.2.1.c1
      go_wp2_with fail
      go_loopg [5, 7] W (fun gh v xv wr => ∃ (xx g kk cap : Nat), xv = .int .i64 (xx : Int) ∧ v = .slice (some ⟨g, 0, none⟩) kk cap ∧ Hid (W = xx + gh) ∧ xx ≤ W ∧ Hid (kk = bb * W + xx) ∧ Hid (OwnsQ wr w.heap.size (.slice (some ⟨g, 0, none⟩) kk cap) (flipQ L W H rows kk) ∧ RB wr w.heap.size (W : Int) (H : Int) q n c o ∧ RZ wr (w.heap.size + 1) ∧ Below w.heap.size w wr))
      case atStart => exact ⟨0, g, kk, cap, rfl, rfl, Lib.hid (by omega), by omega, Lib.hid (by rw [hkk.out]; rfl), hX⟩
      case round =>
        obtain ⟨xx, g, kk, cap, rfl, rfl, hg2, hxx, hkk, hY⟩ := hrel
        have r0 : wr.cell? ⟨w.heap.size, 0, none⟩ = some (.int .i64 (W : Int)) := hY.out.2.1.c0
        have r1 : wr.cell? ⟨w.heap.size, 1, none⟩ = some (.int .i64 (H : Int)) := hY.out.2.1.c1
        have r2 : wr.cell? ⟨w.heap.size, 2, none⟩ = some (.slice (some ⟨q, 0, none⟩) n c) := hY.out.2.1.c2
        by_cases hlx : xx < W
        · have x0 : (xx : Int) < (W : Int) := by omega
          have z3 := hY.out.2.2.2.size
          have hda := Lib.hid (div_at (b := bb) hlx)
          have hkb : kk ≤ 16384 * 16384 := by rw [hkk.out]; have := hrow.out; have := Nat.mul_le_mul hH hW; omega
          cases rows
          · obtain ⟨p, hp⟩ : ∃ p, bb * W = p := ⟨_, rfl⟩
            have hfk : Hid (flipK W H false kk = p + (W - 1 - xx)) := Lib.hid (by unfold flipK; rw [hkk.out, hda.out.1, hda.out.2, hp]; rfl)
            have hin : p + (W - 1 - xx) < n := by rw [HN.out, ← hp]; have := hrow.out; omega
            have hpb : p ≤ 16384 * 16384 := by rw [← hp]; exact Nat.mul_le_mul (by omega) hW
            have HWP := prod3_in hp (by omega)
            obtain ⟨i, hi⟩ : ∃ i, i = p + (W - 1 - xx) := ⟨_, rfl⟩
            rw [← hi] at hin hfk
            have hie : (p : Int) + (W : Int) - 1 - (xx : Int) = (i : Int) := by omega
            obtain ⟨qc, hqc⟩ : ∃ qc, L[i]? = some qc := ⟨_, List.getElem?_eq_getElem (by rw [← HLN.out]; exact hin)⟩
            obtain ⟨e0, e1, e2, e3⟩ := (HQ.out.below hY.out.2.2.2) i qc hqc
            rw [Nat.zero_add] at e0 e1 e2 e3
            have HX : Hid (flipQ L W H false (kk + 1) = flipQ L W H false kk ++ [qc]) := Lib.hid (by rw [flipQ_succ, hfk.out, List.getD_eq_getElem?_getD, hqc]; rfl)
            have own4 := hY.out.1.alloc (.cells #[.int .u8 (qc.r.toNat : Int), .int .u8 (qc.g.toNat : Int), .int .u8 (qc.b.toNat : Int), .int .u8 (qc.a.toNat : Int)] 39)
            have hin' : (i : Int) < (n : Int) := by omega
            clear hi hqc
            go_wp2_with (at_builtin; refine wpList_append_cols rfl (.tmp 39) (.tmp 54) rfl w.heap.size _ _ rfl own4 wr.heap.size 1 1 [qc] rfl rfl (q_new wr qc) ?_ ?_ ?_; (rw [flipQ_len]; simp; omega); (simp; omega); intro v5 w5 own5 hb5 hg5)
            obtain ⟨g5, cap5, hv5⟩ : ∃ g5 cap5, v5 = .slice (some ⟨g5, 0, none⟩) (kk + 1) cap5 := by
              rcases own5.form with ⟨_, h⟩ | ⟨g5, cap5, h, _⟩
              · simp at h
              · exact ⟨g5, cap5, by rw [h, List.length_append, flipQ_len]; rfl⟩
            subst hv5
            go_roundg (W - (xx + 1))
            case measure => have := hg2.out; omega
            case rel =>
              exact ⟨xx + 1, g5, kk + 1, cap5, by go_num, rfl, Lib.hid (by have := hg2.out; omega), by omega, Lib.hid (by rw [hkk.out]; omega), Lib.hid ⟨by rw [HX.out]; exact own5, Blk.grownQ (Blk.alloc hY.out.2.1 _) own4 (by decide) hg5, Blk.grownQ (Blk.alloc hY.out.2.2.1 _) own4 (by decide) hg5, (hY.out.2.2.2.alloc z3 _).trans hb5⟩⟩
          · obtain ⟨p, hp⟩ : ∃ p, (H - 1 - bb) * W = p := ⟨_, rfl⟩
            have hfk : Hid (flipK W H true kk = p + xx) := Lib.hid (by unfold flipK; rw [hkk.out, hda.out.1, hda.out.2, hp]; rfl)
            have hin : p + xx < n := by rw [HN.out, ← hp]; have := row_in (n := W) (show H - 1 - bb < H by omega); omega
            have hpb : p ≤ 16384 * 16384 := by rw [← hp]; exact Nat.mul_le_mul (by omega) hW
            have HWP : IntKind.i64.wrap (((H : Int) - 1 - (bb : Int)) * (W : Int)) = (p : Int) := by
              rw [show (H : Int) - 1 - (bb : Int) = ((H - 1 - bb : Nat) : Int) by omega]
              exact prod3_in hp (by omega)
            obtain ⟨i, hi⟩ : ∃ i, i = p + xx := ⟨_, rfl⟩
            rw [← hi] at hin hfk
            have hie : (p : Int) + (xx : Int) = (i : Int) := by omega
            obtain ⟨qc, hqc⟩ : ∃ qc, L[i]? = some qc := ⟨_, List.getElem?_eq_getElem (by rw [← HLN.out]; exact hin)⟩
            obtain ⟨e0, e1, e2, e3⟩ := (HQ.out.below hY.out.2.2.2) i qc hqc
            rw [Nat.zero_add] at e0 e1 e2 e3
            have HX : Hid (flipQ L W H true (kk + 1) = flipQ L W H true kk ++ [qc]) := Lib.hid (by rw [flipQ_succ, hfk.out, List.getD_eq_getElem?_getD, hqc]; rfl)
            have own4 := hY.out.1.alloc (.cells #[.int .u8 (qc.r.toNat : Int), .int .u8 (qc.g.toNat : Int), .int .u8 (qc.b.toNat : Int), .int .u8 (qc.a.toNat : Int)] 39)
            have hin' : (i : Int) < (n : Int) := by omega
            clear hi hqc
            go_wp2_with (at_builtin; refine wpList_append_cols rfl (.tmp 22) (.tmp 37) rfl w.heap.size _ _ rfl own4 wr.heap.size 1 1 [qc] rfl rfl (q_new wr qc) ?_ ?_ ?_; (rw [flipQ_len]; simp; omega); (simp; omega); intro v5 w5 own5 hb5 hg5)
            obtain ⟨g5, cap5, hv5⟩ : ∃ g5 cap5, v5 = .slice (some ⟨g5, 0, none⟩) (kk + 1) cap5 := by
              rcases own5.form with ⟨_, h⟩ | ⟨g5, cap5, h, _⟩
              · simp at h
              · exact ⟨g5, cap5, by rw [h, List.length_append, flipQ_len]; rfl⟩
            subst hv5
            go_roundg (W - (xx + 1))
            case measure => have := hg2.out; omega
            case rel =>
              exact ⟨xx + 1, g5, kk + 1, cap5, by go_num, rfl, Lib.hid (by have := hg2.out; omega), by omega, Lib.hid (by rw [hkk.out]; omega), Lib.hid ⟨by rw [HX.out]; exact own5, Blk.grownQ (Blk.alloc hY.out.2.1 _) own4 (by decide) hg5, Blk.grownQ (Blk.alloc hY.out.2.2.1 _) own4 (by decide) hg5, (hY.out.2.2.2.alloc z3 _).trans hb5⟩⟩
        · have hx2 : xx = W := by omega
          have x0 : ¬ (xx : Int) < (W : Int) := by omega
          have HXX := Lib.hid hx2
          clear hx2 hlx
          go_wp2_with fail
          go_roundg (H - (bb + 1))
          case measure => have := hg.out; omega
          case rel => exact ⟨bb + 1, g, kk, cap, by go_num, rfl, Lib.hid (by have := hg.out; omega), by omega, Lib.hid (by rw [hkk.out, HXX.out, Nat.add_mul, Nat.one_mul]), hY⟩
    · have hb2 : bb = H := by omega
      have b0 : ¬ (bb : Int) < (H : Int) := by omega
      have f0 : wr.cell? ⟨w.heap.size, 0, none⟩ = some (.int .i64 (W : Int)) := hX.out.2.1.c0
      have f1 : wr.cell? ⟨w.heap.size, 1, none⟩ = some (.int .i64 (H : Int)) := hX.out.2.1.c1
      have y0 : wr.cell? ⟨w.heap.size + 1, 0, none⟩ = some (.int .i64 0) := Blk.cell hX.out.2.2.1 0
      have y1 : wr.cell? ⟨w.heap.size + 1, 1, none⟩ = some (.int .i64 0) := Blk.cell hX.out.2.2.1 1
      have y2 : wr.cell? ⟨w.heap.size + 1, 2, none⟩ = some (.slice none 0 0) := Blk.cell hX.out.2.2.1 2
      have y3 : wr.cell? ⟨w.heap.size + 1, 3, none⟩ = some (.bool false) := Blk.cell hX.out.2.2.1 3
      have yz0 := Blk.frozen hX.out.2.2.1 0
      have yz1 := Blk.frozen hX.out.2.2.1 1
      have yz2 := Blk.frozen hX.out.2.2.1 2
      have yz3 := Blk.frozen hX.out.2.2.1 3
      have HB2 := Lib.hid hb2
      clear hb2 hlt
      go_wp2_with fail
      have hkn : kk = n := by rw [hkk.out, HB2.out, HN.out]
      have hbg : w.heap.size ≤ g := by
        rcases hX.out.1.form with ⟨h, _⟩ | ⟨g5, cap5, h, hb5, _⟩
        · cases h
        · simp only [Value.slice.injEq, Option.some.injEq, Addr.mk.injEq] at h
          rw [h.1.1]; exact hb5
      have T9 : Turn [w.heap.size + 1] wr ((((wr.setCell ⟨w.heap.size + 1, 0, none⟩ (.int .i64 (W : Int))).setCell ⟨w.heap.size + 1, 1, none⟩ (.int .i64 (H : Int))).setCell ⟨w.heap.size + 1, 2, none⟩ (.slice (some ⟨g, 0, none⟩) kk cap)).setCell ⟨w.heap.size + 1, 3, none⟩ (.bool true)) := ((((Turn.refl _ _).set_ 0 _ (.inl (by simp))).set_ 1 _ (.inl (by simp))).set_ 2 _ (.inl (by simp))).set_ 3 _ (.inl (by simp))
      have O9 : OwnsQ ((((wr.setCell ⟨w.heap.size + 1, 0, none⟩ (.int .i64 (W : Int))).setCell ⟨w.heap.size + 1, 1, none⟩ (.int .i64 (H : Int))).setCell ⟨w.heap.size + 1, 2, none⟩ (.slice (some ⟨g, 0, none⟩) kk cap)).setCell ⟨w.heap.size + 1, 3, none⟩ (.bool true)) w.heap.size (.slice (some ⟨g, 0, none⟩) kk cap) (flipQ L W H rows kk) := hX.out.1.turn T9 (fun i hi => by rw [List.mem_singleton.1 hi]; exact ⟨_, _, hX.out.2.2.1, by decide⟩)
      have R9 : RB ((((wr.setCell ⟨w.heap.size + 1, 0, none⟩ (.int .i64 (W : Int))).setCell ⟨w.heap.size + 1, 1, none⟩ (.int .i64 (H : Int))).setCell ⟨w.heap.size + 1, 2, none⟩ (.slice (some ⟨g, 0, none⟩) kk cap)).setCell ⟨w.heap.size + 1, 3, none⟩ (.bool true)) (w.heap.size + 1) (W : Int) (H : Int) g kk cap true := (((Blk.set_ hX.out.2.2.1 0 _).set_ 1 _).set_ 2 _).set_ 3 _
      have B9 : Below w.heap.size w ((((wr.setCell ⟨w.heap.size + 1, 0, none⟩ (.int .i64 (W : Int))).setCell ⟨w.heap.size + 1, 1, none⟩ (.int .i64 (H : Int))).setCell ⟨w.heap.size + 1, 2, none⟩ (.slice (some ⟨g, 0, none⟩) kk cap)).setCell ⟨w.heap.size + 1, 3, none⟩ (.bool true)) := Turn.belowNext hX.out.2.2.2 T9 (by simp) hX.out.2.2.2.size
      change bodyPost _ _ _ _ _ ((((wr.setCell ⟨w.heap.size + 1, 0, none⟩ (.int .i64 (W : Int))).setCell ⟨w.heap.size + 1, 1, none⟩ (.int .i64 (H : Int))).setCell ⟨w.heap.size + 1, 2, none⟩ (.slice (some ⟨g, 0, none⟩) kk cap)).setCell ⟨w.heap.size + 1, 3, none⟩ (.bool true))
      generalize ((((wr.setCell ⟨w.heap.size + 1, 0, none⟩ (.int .i64 (W : Int))).setCell ⟨w.heap.size + 1, 1, none⟩ (.int .i64 (H : Int))).setCell ⟨w.heap.size + 1, 2, none⟩ (.slice (some ⟨g, 0, none⟩) kk cap)).setCell ⟨w.heap.size + 1, 3, none⟩ (.bool true)) = we at O9 R9 B9 ⊢
      clear T9
      have r0 := R9.c0
      have r1 := R9.c1
      have r2 := R9.c2
      have r3 := R9.c3
      subst hkn
      exact bodyPost_ret (v := .agg #[.int .i64 (W : Int), .int .i64 (H : Int), .slice (some ⟨g, 0, none⟩) kk cap, .bool true]) (by simp [results, Try.results49, go_sem, r0, r1, r2, r3]) rfl ⟨g, cap, rfl, O9.at_, hbg, O9.cap, B9⟩
end Go.Proofs.Ytfgcbhcfekonnaa
