/- The document's raster: New, Is. The document's raster: Flip. The document's raster: Set. -/
import Derived.Test.YtfgcbhcfekonnaaCols
import Derived.Test.YtfgcbhcfekonnaaRas
namespace Go.Proofs.Ytfgcbhcfekonnaa
open Go.RowKit
set_option linter.unusedVariables false
set_option linter.unusedSimpArgs false

def refC (W H : Int) (q n c : Nat) (o : Bool) : Array Value := #[.int .i64 W, .int .i64 H, .slice (some ⟨q, 0, none⟩) n c, .bool o]
def refZ : Array Value := #[.int .i64 0, .int .i64 0, .slice none 0 0, .bool false]
def RB (w : World) (k : Nat) (W H : Int) (q n c : Nat) (o : Bool) : Prop := Blk w k 34 (refC W H q n c o)
section
variable {w : World} {k q n c : Nat} {W H : Int} {o : Bool}
theorem RB.c0 (h : RB w k W H q n c o) : w.cell? ⟨k, 0, none⟩ = some (.int .i64 W) := Blk.cell h 0
theorem RB.c1 (h : RB w k W H q n c o) : w.cell? ⟨k, 1, none⟩ = some (.int .i64 H) := Blk.cell h 1
theorem RB.c2 (h : RB w k W H q n c o) : w.cell? ⟨k, 2, none⟩ = some (.slice (some ⟨q, 0, none⟩) n c) := Blk.cell h 2
theorem RB.c3 (h : RB w k W H q n c o) : w.cell? ⟨k, 3, none⟩ = some (.bool o) := Blk.cell h 3
end
theorem QAt.below' {w w' : World} {b off : Nat} {C : List Qc} (h : QAt w b off C) (hb : Below w.heap.size w w') : QAt w' b off C := fun i q hi => by
  obtain ⟨h0, h1, h2, h3⟩ := h i q hi
  have hl := World.block_lt_of_cell? w _ h0
  exact ⟨(hb.cell (p := ⟨b, off + i * 4, none⟩) hl).trans h0, (hb.cell (p := ⟨b, off + i * 4 + 1, none⟩) hl).trans h1, (hb.cell (p := ⟨b, off + i * 4 + 2, none⟩) hl).trans h2, (hb.cell (p := ⟨b, off + i * 4 + 3, none⟩) hl).trans h3⟩
def q0 : Qc := ⟨0, 0, 0, 0⟩
theorem made_q (n : Nat) (i j : Nat) (hi : i < n) (hj : j < 4) : (madeCells #[.int .u8 0, .int .u8 0, .int .u8 0, .int .u8 0] (n * 4))[i * 4 + j]? = some (.int .u8 0) := by
  unfold madeCells
  rw [Array.getElem?_map, Array.getElem?_range]
  have h : i * 4 + j < n * 4 := by omega
  simp only [h, if_pos, Option.map_some]
  have hm : (i * 4 + j) % 4 = j := by omega
  simp only [List.size_toArray, List.length_cons, List.length_nil, Nat.zero_add, Nat.reduceAdd, hm]
  match j, hj with
  | 0, _ => rfl
  | 1, _ => rfl
  | 2, _ => rfl
  | 3, _ => rfl
theorem q_made (w : World) (n : Nat) : QAt (w.alloc (.cells (madeCells #[.int .u8 0, .int .u8 0, .int .u8 0, .int .u8 0] (n * 4)) 39)) w.heap.size 0 (List.replicate n q0) := fun i q hi => by
  have hin : i < n := by have := (List.getElem?_eq_some_iff.1 hi).1; simpa using this
  have hq : q = q0 := by rw [List.getElem?_replicate, if_pos hin] at hi; exact (Option.some.inj hi).symm
  subst hq
  rw [Nat.zero_add]
  exact ⟨(cell_new _ _ _ _ _ rfl).trans (made_q n i 0 hin (by omega)), (cell_new _ _ _ _ _ rfl).trans (made_q n i 1 hin (by omega)), (cell_new _ _ _ _ _ rfl).trans (made_q n i 2 hin (by omega)), (cell_new _ _ _ _ _ rfl).trans (made_q n i 3 hin (by omega))⟩
theorem prod3_in {m s p : Nat} (h : m * s = p) (hp : p ≤ 4294967296) : IntKind.i64.wrap ((m : Int) * (s : Int)) = (p : Int) := by
  have e : (m : Int) * (s : Int) = (p : Int) := by rw [← h]; exact (Int.natCast_mul m s).symm
  rw [e]
  exact IntWalk.i64_in _ (by omega)
set_option maxRecDepth 100000 in
theorem refNew7 {w : World} {W H n : Nat} (hn : W * H = n) (hW : W ≤ 16384) (hH : H ≤ 16384) :
    Calls Try.prog 13 #[.int .i64 (W : Int), .int .i64 (H : Int)] w fun e w' => ∃ q, e = .returned (.agg (refC (W : Int) (H : Int) q n n true)) ∧ QAt w' q 0 (List.replicate n q0) ∧ w.heap.size ≤ q ∧ Below w.heap.size w w' := by
  have hnb : n ≤ 16384 * 16384 := by rw [← hn]; exact Nat.mul_le_mul hW hH
  have HP := prod3_in hn (by omega)
  obtain ⟨i0, hi, hz0, hz1, hz2⟩ := info_parts infoQ
  have hmk : ∀ w : World, (Instr.makeSlice 32 (.int .i64 (n : Int)) (.int .i64 (n : Int))).run Try.prog w = .ok (.slice (some ⟨w.heap.size, 0, none⟩) n n) (w.alloc (.cells (madeCells #[.int .u8 0, .int .u8 0, .int .u8 0, .int .u8 0] (n * 4)) 39)) := fun w => by
    have := run_make w 32 39 i0 _ Try.underlying32 hi hz0 .i64 .i64 (n : Int) (n : Int) (by omega) (Int.le_refl _) (by rw [hz2]; omega) (by omega)
    rw [hz1, show (Value.agg #[.int .u8 0, .int .u8 0, .int .u8 0, .int .u8 0]).cells = #[.int .u8 0, .int .u8 0, .int .u8 0, .int .u8 0] from rfl] at this
    simpa using this
  clear hn hi hz0 hz1 hz2
  go_enter Try.func13, Try.ntmps13
  go_wp2_with fail
  have R1 : RB ((w.alloc (.cells #[.int .i64 (W : Int), .int .i64 (H : Int), .slice (some ⟨w.heap.size + 1, 0, none⟩) n n, .bool true] 34)).alloc (.cells (madeCells #[.int .u8 0, .int .u8 0, .int .u8 0, .int .u8 0] (n * 4)) 39)) w.heap.size (W : Int) (H : Int) (w.heap.size + 1) n n true := (Blk.new _ _ _).alloc _
  have Q1 : QAt ((w.alloc (.cells #[.int .i64 (W : Int), .int .i64 (H : Int), .slice (some ⟨w.heap.size + 1, 0, none⟩) n n, .bool true] 34)).alloc (.cells (madeCells #[.int .u8 0, .int .u8 0, .int .u8 0, .int .u8 0] (n * 4)) 39)) (w.heap.size + 1) 0 (List.replicate n q0) := by
    have := q_made (w.alloc (.cells #[.int .i64 (W : Int), .int .i64 (H : Int), .slice (some ⟨w.heap.size + 1, 0, none⟩) n n, .bool true] 34)) n
    rwa [show (w.alloc (.cells #[.int .i64 (W : Int), .int .i64 (H : Int), .slice (some ⟨w.heap.size + 1, 0, none⟩) n n, .bool true] 34)).heap.size = w.heap.size + 1 by simp] at this
  have T1 : Below w.heap.size w ((w.alloc (.cells #[.int .i64 (W : Int), .int .i64 (H : Int), .slice (some ⟨w.heap.size + 1, 0, none⟩) n n, .bool true] 34)).alloc (.cells (madeCells #[.int .u8 0, .int .u8 0, .int .u8 0, .int .u8 0] (n * 4)) 39)) := ((Below.refl _ _).alloc (Nat.le_refl _) _).alloc (by simp) _
  change bodyPost _ _ _ _ _ ((w.alloc (.cells #[.int .i64 (W : Int), .int .i64 (H : Int), .slice (some ⟨w.heap.size + 1, 0, none⟩) n n, .bool true] 34)).alloc (.cells (madeCells #[.int .u8 0, .int .u8 0, .int .u8 0, .int .u8 0] (n * 4)) 39))
  generalize ((w.alloc (.cells #[.int .i64 (W : Int), .int .i64 (H : Int), .slice (some ⟨w.heap.size + 1, 0, none⟩) n n, .bool true] 34)).alloc (.cells (madeCells #[.int .u8 0, .int .u8 0, .int .u8 0, .int .u8 0] (n * 4)) 39)) = we at R1 Q1 T1 ⊢
  have r0 := R1.c0
  have r1 := R1.c1
  have r2 := R1.c2
  have r3 := R1.c3
  exact bodyPost_ret (v := .agg (refC (W : Int) (H : Int) (w.heap.size + 1) n n true)) (by simp [results, Try.results13, go_sem, r0, r1, r2, r3, refC]) rfl ⟨_, rfl, Q1, by omega, T1⟩
/-- is there such a pixel? -/
def IsP (W H : Int) (o : Bool) (X Y : Int) : Prop := o = true ∧ 0 ≤ X ∧ X < W ∧ 0 ≤ Y ∧ Y < H
theorem refIs_yes {W H X Y : Int} {q n c : Nat} (h : IsP W H true X Y) (w : World) :
    Calls Try.prog 43 #[.agg (refC W H q n c true), .int .i64 X, .int .i64 Y] w fun e w' => e = .returned (.bool true) ∧ Below w.heap.size w w' := by
  obtain ⟨_, h1, h2, h3, h4⟩ := h
  unfold refC
  go_enter Try.func43, Try.ntmps43
  go_wp2_with fail
  go_ret
  exact ⟨rfl, (Below.refl _ _).alloc (Nat.le_refl _) _⟩
theorem refIs_no {W H X Y : Int} {q n c : Nat} {o : Bool} (h : ¬ IsP W H o X Y) (w : World) :
    Calls Try.prog 43 #[.agg (refC W H q n c o), .int .i64 X, .int .i64 Y] w fun e w' => e = .returned (.bool false) ∧ Below w.heap.size w w' := by
  unfold refC
  cases o
  · clear h
    go_enter Try.func43, Try.ntmps43
    go_wp2_with fail
    go_ret
    exact ⟨rfl, (Below.refl _ _).alloc (Nat.le_refl _) _⟩
  by_cases x0 : X < 0
  · clear h
    go_enter Try.func43, Try.ntmps43
    go_wp2_with fail
    go_ret
    exact ⟨rfl, (Below.refl _ _).alloc (Nat.le_refl _) _⟩
  by_cases x1 : W ≤ X
  · clear h
    go_enter Try.func43, Try.ntmps43
    go_wp2_with fail
    go_ret
    exact ⟨rfl, (Below.refl _ _).alloc (Nat.le_refl _) _⟩
  by_cases y0 : Y < 0
  · clear h
    go_enter Try.func43, Try.ntmps43
    go_wp2_with fail
    go_ret
    exact ⟨rfl, (Below.refl _ _).alloc (Nat.le_refl _) _⟩
  have y1 : H ≤ Y := Int.not_lt.1 fun q => h ⟨rfl, by omega, by omega, by omega, q⟩
  clear h
  go_enter Try.func43, Try.ntmps43
  go_wp2_with fail
  go_ret
  exact ⟨ret1 (vbool (decide_eq_false (by omega))), (Below.refl _ _).alloc (Nat.le_refl _) _⟩
end Go.Proofs.Ytfgcbhcfekonnaa
namespace Go.Proofs.Ytfgcbhcfekonnaa
open Go.RowKit
set_option linter.unusedVariables false
set_option linter.unusedSimpArgs false

/-- where the k-th pixel comes from -/
def flipK (W H : Nat) (rows : Bool) (k : Nat) : Nat := if rows then (H - 1 - k / W) * W + k % W else k / W * W + (W - 1 - k % W)
def flipQ (L : List Qc) (W H : Nat) (rows : Bool) (j : Nat) : List Qc := (List.range j).map fun k => L.getD (flipK W H rows k) q0
theorem flipQ_succ (L : List Qc) (W H : Nat) (rows : Bool) (j : Nat) : flipQ L W H rows (j + 1) = flipQ L W H rows j ++ [L.getD (flipK W H rows j) q0] := by simp [flipQ, List.range_succ]
theorem flipQ_len (L : List Qc) (W H : Nat) (rows : Bool) (j : Nat) : (flipQ L W H rows j).length = j := by simp [flipQ]
theorem div_at {b W a : Nat} (h : a < W) : (b * W + a) / W = b ∧ (b * W + a) % W = a := by
  have hW : 0 < W := by omega
  exact ⟨by rw [Nat.mul_comm, Nat.mul_add_div hW, Nat.div_eq_of_lt h, Nat.add_zero], by rw [Nat.mul_comm, Nat.mul_add_mod, Nat.mod_eq_of_lt h]⟩
theorem row_in {r H n : Nat} (h : r < H) : r * n + n ≤ H * n := by
  have := Nat.mul_le_mul (show r + 1 ≤ H by omega) (Nat.le_refl n)
  rw [Nat.add_mul, Nat.one_mul] at this
  exact this
theorem OwnsQ.cap {w : World} {base g n c : Nat} {L : List Qc} (h : OwnsQ w base (.slice (some ⟨g, 0, none⟩) n c) L) : n ≤ c := by
  rcases h.2 with ⟨e, _⟩ | ⟨g', cap, cur, e, hb, hg, hc, _⟩
  · cases e
  · simp only [Value.slice.injEq, Option.some.injEq, Addr.mk.injEq] at e
    obtain ⟨_, rfl, rfl⟩ := e
    exact hc
def RZ (w : World) (k : Nat) : Prop := Blk w k 34 refZ
set_option maxRecDepth 100000 in
set_option maxHeartbeats 2000000 in
theorem refFlip7 {w : World} {W H n q c : Nat} {o : Bool} {L : List Qc} (rows : Bool) (hn : n = H * W) (hL : n = L.length) (hW1 : 1 ≤ W) (hW : W ≤ 16384) (hH : H ≤ 16384) (hq : QAt w q 0 L) :
    Calls Try.prog 49 #[.agg (refC (W : Int) (H : Int) q n c o), .bool rows] w fun e w' => ∃ q' c', e = .returned (.agg (refC (W : Int) (H : Int) q' n c' true)) ∧ QAt w' q' 0 (flipQ L W H rows n) ∧ w.heap.size ≤ q' ∧ n ≤ c' ∧ Below w.heap.size w w' := by
  unfold refC
  obtain ⟨wA, hwA⟩ : ∃ wA, wA = ((w.alloc (.cells (refC (W : Int) (H : Int) q n c o) 34)).alloc (.cells refZ 34)).alloc (.cells #[] 39) := ⟨_, rfl⟩
  have HI : Hid (RB wA w.heap.size (W : Int) (H : Int) q n c o ∧ RZ wA (w.heap.size + 1) ∧ OwnsQ wA w.heap.size (.slice (some ⟨w.heap.size + 2, 0, none⟩) 0 0) [] ∧ Below w.heap.size w wA) := Lib.hid (by
    subst hwA
    refine ⟨((Blk.new _ _ _).alloc _).alloc _, (Blk.new_at _ _ _ (by simp)).alloc _, ?_, (((Below.refl _ _).alloc (Nat.le_refl _) _).alloc (by simp) _).alloc (by simp; omega) _⟩
    have := World.ownsRow_made ((w.alloc (.cells (refC (W : Int) (H : Int) q n c o) 34)).alloc (.cells refZ 34)) (base := w.heap.size) (e := 39) (size := 4) #[] 0 (by simp; omega) (Nat.zero_le _) rfl
    simpa [OwnsQ, cq] using this)
  have HQ := Lib.hid hq
  have HN := Lib.hid hn
  have HLN := Lib.hid hL
  clear hq hn hL
  simp only [refC, refZ] at hwA
  go_enter Try.func49, Try.ntmps49
  go_wp2_with fail
  change Code.wp _ _ _ _ (((w.alloc (.cells #[.int .i64 (W : Int), .int .i64 (H : Int), .slice (some ⟨q, 0, none⟩) n c, .bool o] 34)).alloc (.cells #[.int .i64 0, .int .i64 0, .slice none 0 0, .bool false] 34)).alloc (.cells #[] 39))
  rw [← hwA]
  clear hwA
  go_loopg [5, 6, 7] H (fun gh v bv s7 wr => ∃ (bb g kk cap : Nat), bv = .int .i64 (bb : Int) ∧ v = .slice (some ⟨g, 0, none⟩) kk cap ∧ Hid (H = bb + gh) ∧ bb ≤ H ∧ Hid (kk = bb * W) ∧ Hid (OwnsQ wr w.heap.size (.slice (some ⟨g, 0, none⟩) kk cap) (flipQ L W H rows kk) ∧ RB wr w.heap.size (W : Int) (H : Int) q n c o ∧ RZ wr (w.heap.size + 1) ∧ Below w.heap.size w wr))
  case atStart => exact ⟨0, w.heap.size + 2, 0, 0, rfl, rfl, Lib.hid (by omega), by omega, Lib.hid (by omega), Lib.hid ⟨HI.out.2.2.1, HI.out.1, HI.out.2.1, HI.out.2.2.2⟩⟩
  case round =>
    obtain ⟨bb, g, kk, cap, rfl, rfl, hg, hbb, hkk, hX⟩ := hrel
    obtain ⟨G, hGe⟩ : ∃ G, G = gk := ⟨_, rfl⟩
    subst hGe
    by_cases hlt : bb < H
    · have b0 : (bb : Int) < (H : Int) := by omega
      have hrow := Lib.hid (row_in (n := W) hlt)
      have f1 : wr.cell? ⟨w.heap.size, 1, none⟩ = some (.int .i64 (H : Int)) := hX.out.2.1.c1
      go_wp2_with fail
      go_loopg [5, 7] W (fun gh v xv wr => ∃ (xx g kk cap : Nat), xv = .int .i64 (xx : Int) ∧ v = .slice (some ⟨g, 0, none⟩) kk cap ∧ Hid (W = xx + gh) ∧ xx ≤ W ∧ Hid (kk = bb * W + xx) ∧ Hid (OwnsQ wr w.heap.size (.slice (some ⟨g, 0, none⟩) kk cap) (flipQ L W H rows kk) ∧ RB wr w.heap.size (W : Int) (H : Int) q n c o ∧ RZ wr (w.heap.size + 1) ∧ Below w.heap.size w wr))
      case atStart => exact ⟨0, g, kk, cap, rfl, rfl, Lib.hid (by omega), by omega, Lib.hid (by rw [hkk.out]; rfl), hX⟩
      case round =>
        obtain ⟨xx, g, kk, cap, rfl, rfl, hg2, hxx, hkk, hY⟩ := hrel
        have r0 : wr.cell? ⟨w.heap.size, 0, none⟩ = some (.int .i64 (W : Int)) := hY.out.2.1.c0
        have r1 : wr.cell? ⟨w.heap.size, 1, none⟩ = some (.int .i64 (H : Int)) := hY.out.2.1.c1
        have r2 : wr.cell? ⟨w.heap.size, 2, none⟩ = some (.slice (some ⟨q, 0, none⟩) n c) := hY.out.2.1.c2
        by_cases hlx : xx < W
        · have x0 : (xx : Int) < (W : Int) := by omega
          have z3 := hY.out.2.2.2.size
          have hda := Lib.hid (div_at (b := bb) hlx)
          have hkb : kk ≤ 16384 * 16384 := by rw [hkk.out]; have := hrow.out; have := Nat.mul_le_mul hH hW; omega
          cases rows
          · obtain ⟨p, hp⟩ : ∃ p, bb * W = p := ⟨_, rfl⟩
            have hfk : Hid (flipK W H false kk = p + (W - 1 - xx)) := Lib.hid (by unfold flipK; rw [hkk.out, hda.out.1, hda.out.2, hp]; rfl)
            have hin : p + (W - 1 - xx) < n := by rw [HN.out, ← hp]; have := hrow.out; omega
            have hpb : p ≤ 16384 * 16384 := by rw [← hp]; exact Nat.mul_le_mul (by omega) hW
            have HWP := prod3_in hp (by omega)
            obtain ⟨i, hi⟩ : ∃ i, i = p + (W - 1 - xx) := ⟨_, rfl⟩
            rw [← hi] at hin hfk
            have hie : (p : Int) + (W : Int) - 1 - (xx : Int) = (i : Int) := by omega
            obtain ⟨qc, hqc⟩ : ∃ qc, L[i]? = some qc := ⟨_, List.getElem?_eq_getElem (by rw [← HLN.out]; exact hin)⟩
            obtain ⟨e0, e1, e2, e3⟩ := (HQ.out.below hY.out.2.2.2) i qc hqc
            rw [Nat.zero_add] at e0 e1 e2 e3
            have HX : Hid (flipQ L W H false (kk + 1) = flipQ L W H false kk ++ [qc]) := Lib.hid (by rw [flipQ_succ, hfk.out, List.getD_eq_getElem?_getD, hqc]; rfl)
            have own4 := hY.out.1.alloc (.cells #[.int .u8 (qc.r.toNat : Int), .int .u8 (qc.g.toNat : Int), .int .u8 (qc.b.toNat : Int), .int .u8 (qc.a.toNat : Int)] 39)
            have hin' : (i : Int) < (n : Int) := by omega
            clear hi hqc
            go_wp2_with (at_builtin; refine wpList_append_cols rfl (.tmp 39) (.tmp 54) rfl w.heap.size _ _ rfl own4 wr.heap.size 1 1 [qc] rfl rfl (q_new wr qc) ?_ ?_ ?_; (rw [flipQ_len]; simp; omega); (simp; omega); intro v5 w5 own5 hb5 hg5)
            obtain ⟨g5, cap5, hv5⟩ : ∃ g5 cap5, v5 = .slice (some ⟨g5, 0, none⟩) (kk + 1) cap5 := by
              rcases own5.form with ⟨_, h⟩ | ⟨g5, cap5, h, _⟩
              · simp at h
              · exact ⟨g5, cap5, by rw [h, List.length_append, flipQ_len]; rfl⟩
            subst hv5
            go_roundg (W - (xx + 1))
            case measure => have := hg2.out; omega
            case rel =>
              exact ⟨xx + 1, g5, kk + 1, cap5, by go_num, rfl, Lib.hid (by have := hg2.out; omega), by omega, Lib.hid (by rw [hkk.out]; omega), Lib.hid ⟨by rw [HX.out]; exact own5, Blk.grownQ (Blk.alloc hY.out.2.1 _) own4 (by decide) hg5, Blk.grownQ (Blk.alloc hY.out.2.2.1 _) own4 (by decide) hg5, (hY.out.2.2.2.alloc z3 _).trans hb5⟩⟩
          · obtain ⟨p, hp⟩ : ∃ p, (H - 1 - bb) * W = p := ⟨_, rfl⟩
            have hfk : Hid (flipK W H true kk = p + xx) := Lib.hid (by unfold flipK; rw [hkk.out, hda.out.1, hda.out.2, hp]; rfl)
            have hin : p + xx < n := by rw [HN.out, ← hp]; have := row_in (n := W) (show H - 1 - bb < H by omega); omega
            have hpb : p ≤ 16384 * 16384 := by rw [← hp]; exact Nat.mul_le_mul (by omega) hW
            have HWP : IntKind.i64.wrap (((H : Int) - 1 - (bb : Int)) * (W : Int)) = (p : Int) := by
              rw [show (H : Int) - 1 - (bb : Int) = ((H - 1 - bb : Nat) : Int) by omega]
              exact prod3_in hp (by omega)
            obtain ⟨i, hi⟩ : ∃ i, i = p + xx := ⟨_, rfl⟩
            rw [← hi] at hin hfk
            have hie : (p : Int) + (xx : Int) = (i : Int) := by omega
            obtain ⟨qc, hqc⟩ : ∃ qc, L[i]? = some qc := ⟨_, List.getElem?_eq_getElem (by rw [← HLN.out]; exact hin)⟩
            obtain ⟨e0, e1, e2, e3⟩ := (HQ.out.below hY.out.2.2.2) i qc hqc
            rw [Nat.zero_add] at e0 e1 e2 e3
            have HX : Hid (flipQ L W H true (kk + 1) = flipQ L W H true kk ++ [qc]) := Lib.hid (by rw [flipQ_succ, hfk.out, List.getD_eq_getElem?_getD, hqc]; rfl)
            have own4 := hY.out.1.alloc (.cells #[.int .u8 (qc.r.toNat : Int), .int .u8 (qc.g.toNat : Int), .int .u8 (qc.b.toNat : Int), .int .u8 (qc.a.toNat : Int)] 39)
            have hin' : (i : Int) < (n : Int) := by omega
            clear hi hqc
            go_wp2_with (at_builtin; refine wpList_append_cols rfl (.tmp 22) (.tmp 37) rfl w.heap.size _ _ rfl own4 wr.heap.size 1 1 [qc] rfl rfl (q_new wr qc) ?_ ?_ ?_; (rw [flipQ_len]; simp; omega); (simp; omega); intro v5 w5 own5 hb5 hg5)
            obtain ⟨g5, cap5, hv5⟩ : ∃ g5 cap5, v5 = .slice (some ⟨g5, 0, none⟩) (kk + 1) cap5 := by
              rcases own5.form with ⟨_, h⟩ | ⟨g5, cap5, h, _⟩
              · simp at h
              · exact ⟨g5, cap5, by rw [h, List.length_append, flipQ_len]; rfl⟩
            subst hv5
            go_roundg (W - (xx + 1))
            case measure => have := hg2.out; omega
            case rel =>
              exact ⟨xx + 1, g5, kk + 1, cap5, by go_num, rfl, Lib.hid (by have := hg2.out; omega), by omega, Lib.hid (by rw [hkk.out]; omega), Lib.hid ⟨by rw [HX.out]; exact own5, Blk.grownQ (Blk.alloc hY.out.2.1 _) own4 (by decide) hg5, Blk.grownQ (Blk.alloc hY.out.2.2.1 _) own4 (by decide) hg5, (hY.out.2.2.2.alloc z3 _).trans hb5⟩⟩
        · have hx2 : xx = W := by omega
          have x0 : ¬ (xx : Int) < (W : Int) := by omega
          have HXX := Lib.hid hx2
          clear hx2 hlx
          go_wp2_with fail
          go_roundg (H - (bb + 1))
          case measure => have := hg.out; omega
          case rel => exact ⟨bb + 1, g, kk, cap, by go_num, rfl, Lib.hid (by have := hg.out; omega), by omega, Lib.hid (by rw [hkk.out, HXX.out, Nat.add_mul, Nat.one_mul]), hY⟩
    · have hb2 : bb = H := by omega
      have b0 : ¬ (bb : Int) < (H : Int) := by omega
      have f0 : wr.cell? ⟨w.heap.size, 0, none⟩ = some (.int .i64 (W : Int)) := hX.out.2.1.c0
      have f1 : wr.cell? ⟨w.heap.size, 1, none⟩ = some (.int .i64 (H : Int)) := hX.out.2.1.c1
      have y0 : wr.cell? ⟨w.heap.size + 1, 0, none⟩ = some (.int .i64 0) := Blk.cell hX.out.2.2.1 0
      have y1 : wr.cell? ⟨w.heap.size + 1, 1, none⟩ = some (.int .i64 0) := Blk.cell hX.out.2.2.1 1
      have y2 : wr.cell? ⟨w.heap.size + 1, 2, none⟩ = some (.slice none 0 0) := Blk.cell hX.out.2.2.1 2
      have y3 : wr.cell? ⟨w.heap.size + 1, 3, none⟩ = some (.bool false) := Blk.cell hX.out.2.2.1 3
      have yz0 := Blk.frozen hX.out.2.2.1 0
      have yz1 := Blk.frozen hX.out.2.2.1 1
      have yz2 := Blk.frozen hX.out.2.2.1 2
      have yz3 := Blk.frozen hX.out.2.2.1 3
      have HB2 := Lib.hid hb2
      clear hb2 hlt
      go_wp2_with fail
      have hkn : kk = n := by rw [hkk.out, HB2.out, HN.out]
      have hbg : w.heap.size ≤ g := by
        rcases hX.out.1.form with ⟨h, _⟩ | ⟨g5, cap5, h, hb5, _⟩
        · cases h
        · simp only [Value.slice.injEq, Option.some.injEq, Addr.mk.injEq] at h
          rw [h.1.1]; exact hb5
      have T9 : Turn [w.heap.size + 1] wr ((((wr.setCell ⟨w.heap.size + 1, 0, none⟩ (.int .i64 (W : Int))).setCell ⟨w.heap.size + 1, 1, none⟩ (.int .i64 (H : Int))).setCell ⟨w.heap.size + 1, 2, none⟩ (.slice (some ⟨g, 0, none⟩) kk cap)).setCell ⟨w.heap.size + 1, 3, none⟩ (.bool true)) := ((((Turn.refl _ _).set_ 0 _ (.inl (by simp))).set_ 1 _ (.inl (by simp))).set_ 2 _ (.inl (by simp))).set_ 3 _ (.inl (by simp))
      have O9 : OwnsQ ((((wr.setCell ⟨w.heap.size + 1, 0, none⟩ (.int .i64 (W : Int))).setCell ⟨w.heap.size + 1, 1, none⟩ (.int .i64 (H : Int))).setCell ⟨w.heap.size + 1, 2, none⟩ (.slice (some ⟨g, 0, none⟩) kk cap)).setCell ⟨w.heap.size + 1, 3, none⟩ (.bool true)) w.heap.size (.slice (some ⟨g, 0, none⟩) kk cap) (flipQ L W H rows kk) := hX.out.1.turn T9 (fun i hi => by rw [List.mem_singleton.1 hi]; exact ⟨_, _, hX.out.2.2.1, by decide⟩)
      have R9 : RB ((((wr.setCell ⟨w.heap.size + 1, 0, none⟩ (.int .i64 (W : Int))).setCell ⟨w.heap.size + 1, 1, none⟩ (.int .i64 (H : Int))).setCell ⟨w.heap.size + 1, 2, none⟩ (.slice (some ⟨g, 0, none⟩) kk cap)).setCell ⟨w.heap.size + 1, 3, none⟩ (.bool true)) (w.heap.size + 1) (W : Int) (H : Int) g kk cap true := (((Blk.set_ hX.out.2.2.1 0 _).set_ 1 _).set_ 2 _).set_ 3 _
      have B9 : Below w.heap.size w ((((wr.setCell ⟨w.heap.size + 1, 0, none⟩ (.int .i64 (W : Int))).setCell ⟨w.heap.size + 1, 1, none⟩ (.int .i64 (H : Int))).setCell ⟨w.heap.size + 1, 2, none⟩ (.slice (some ⟨g, 0, none⟩) kk cap)).setCell ⟨w.heap.size + 1, 3, none⟩ (.bool true)) := Turn.belowNext hX.out.2.2.2 T9 (by simp) hX.out.2.2.2.size
      change bodyPost _ _ _ _ _ ((((wr.setCell ⟨w.heap.size + 1, 0, none⟩ (.int .i64 (W : Int))).setCell ⟨w.heap.size + 1, 1, none⟩ (.int .i64 (H : Int))).setCell ⟨w.heap.size + 1, 2, none⟩ (.slice (some ⟨g, 0, none⟩) kk cap)).setCell ⟨w.heap.size + 1, 3, none⟩ (.bool true))
      generalize ((((wr.setCell ⟨w.heap.size + 1, 0, none⟩ (.int .i64 (W : Int))).setCell ⟨w.heap.size + 1, 1, none⟩ (.int .i64 (H : Int))).setCell ⟨w.heap.size + 1, 2, none⟩ (.slice (some ⟨g, 0, none⟩) kk cap)).setCell ⟨w.heap.size + 1, 3, none⟩ (.bool true)) = we at O9 R9 B9 ⊢
      clear T9
      have r0 := R9.c0
      have r1 := R9.c1
      have r2 := R9.c2
      have r3 := R9.c3
      subst hkn
      exact bodyPost_ret (v := .agg #[.int .i64 (W : Int), .int .i64 (H : Int), .slice (some ⟨g, 0, none⟩) kk cap, .bool true]) (by simp [results, Try.results49, go_sem, r0, r1, r2, r3]) rfl ⟨g, cap, rfl, O9.at_, hbg, O9.cap, B9⟩
end Go.Proofs.Ytfgcbhcfekonnaa
namespace Go.Proofs.Ytfgcbhcfekonnaa
open Go.RowKit
set_option linter.unusedVariables false
set_option linter.unusedSimpArgs false

theorem QAt.set {w : World} {g i : Nat} {cs : Array Value} {L : List Qc} {q : Qc} (hb : Blk w g 39 cs) (h : QAt w g 0 L) (hi : i < L.length) (hsz : i * 4 + 4 ≤ cs.size) :
    QAt ((((w.setCell ⟨g, i * 4, none⟩ (.int .u8 (q.r.toNat : Int))).setCell ⟨g, i * 4 + 1, none⟩ (.int .u8 (q.g.toNat : Int))).setCell ⟨g, i * 4 + 2, none⟩ (.int .u8 (q.b.toNat : Int))).setCell ⟨g, i * 4 + 3, none⟩ (.int .u8 (q.a.toNat : Int))) g 0 (L.set i q) := by
  have hb4 := (((hb.set_ (i * 4) (.int .u8 (q.r.toNat : Int))).set_ (i * 4 + 1) (.int .u8 (q.g.toNat : Int))).set_ (i * 4 + 2) (.int .u8 (q.b.toNat : Int))).set_ (i * 4 + 3) (.int .u8 (q.a.toNat : Int))
  intro j q' hj
  have hjl : j < L.length := by have := (List.getElem?_eq_some_iff.1 hj).1; simpa using this
  rw [Nat.zero_add]
  by_cases hji : j = i
  · subst hji
    have hq : q' = q := by
      rw [List.getElem?_set_self hjl] at hj
      exact (Option.some.inj hj).symm
    subst hq
    refine ⟨(Blk.cell hb4 _).trans ?_, (Blk.cell hb4 _).trans ?_, (Blk.cell hb4 _).trans ?_, (Blk.cell hb4 _).trans ?_⟩
    · rw [Array.getElem?_setIfInBounds_ne (by omega), Array.getElem?_setIfInBounds_ne (by omega), Array.getElem?_setIfInBounds_ne (by omega), Array.getElem?_setIfInBounds_self_of_lt (by omega)]
    · rw [Array.getElem?_setIfInBounds_ne (by omega), Array.getElem?_setIfInBounds_ne (by omega), Array.getElem?_setIfInBounds_self_of_lt (by rw [Array.size_setIfInBounds]; omega)]
    · rw [Array.getElem?_setIfInBounds_ne (by omega), Array.getElem?_setIfInBounds_self_of_lt (by simp only [Array.size_setIfInBounds]; omega)]
    · rw [Array.getElem?_setIfInBounds_self_of_lt (by simp only [Array.size_setIfInBounds]; omega)]
  · rw [List.getElem?_set_ne (Ne.symm hji)] at hj
    have hh := h j q' hj
    rw [Nat.zero_add] at hh
    have key : ∀ k, k < 4 → (((((cs.setIfInBounds (i * 4) (.int .u8 (q.r.toNat : Int))).setIfInBounds (i * 4 + 1) (.int .u8 (q.g.toNat : Int))).setIfInBounds (i * 4 + 2) (.int .u8 (q.b.toNat : Int))).setIfInBounds (i * 4 + 3) (.int .u8 (q.a.toNat : Int))))[j * 4 + k]? = cs[j * 4 + k]? := fun k hk => by
      rw [Array.getElem?_setIfInBounds_ne (by omega), Array.getElem?_setIfInBounds_ne (by omega), Array.getElem?_setIfInBounds_ne (by omega), Array.getElem?_setIfInBounds_ne (by omega)]
    refine ⟨(Blk.cell hb4 _).trans ((key 0 (by omega)).trans ((Blk.cell hb _).symm.trans hh.1)), (Blk.cell hb4 _).trans ((key 1 (by omega)).trans ((Blk.cell hb _).symm.trans hh.2.1)), (Blk.cell hb4 _).trans ((key 2 (by omega)).trans ((Blk.cell hb _).symm.trans hh.2.2.1)), (Blk.cell hb4 _).trans ((key 3 (by omega)).trans ((Blk.cell hb _).symm.trans hh.2.2.2))⟩
/-- the block of an owned row -/
theorem OwnsQ.blk {w : World} {base g n c : Nat} {L : List Qc} (h : OwnsQ w base (.slice (some ⟨g, 0, none⟩) n c) L) : base ≤ g ∧ n = L.length ∧ ∃ cs, Blk w g 39 cs ∧ L.length * 4 ≤ cs.size := by
  rcases h.2 with ⟨e, _⟩ | ⟨g', cap, cur, e, hb, hg, hc, hm, hs, ht⟩
  · cases e
  · simp only [Value.slice.injEq, Option.some.injEq, Addr.mk.injEq] at e
    obtain ⟨⟨rfl, _⟩, rfl, rfl⟩ := e
    exact ⟨hb, rfl, cur, hg, by rw [hs]; exact Nat.mul_le_mul hc (Nat.le_refl 4)⟩
theorem OwnsQ.some_ {w : World} {base n : Nat} {v : Value} {L M : List Qc} (h : OwnsQ w base v L) (hM : L = M) (hn : n = M.length) (hp : 0 < n) : ∃ g c, v = .slice (some ⟨g, 0, none⟩) n c ∧ OwnsQ w base (.slice (some ⟨g, 0, none⟩) n c) M := by
  subst hM
  subst hn
  rcases h.form with ⟨_, rfl⟩ | ⟨g, c, rfl, _⟩
  · simp at hp
  · exact ⟨g, c, rfl, h⟩
theorem QAt.far {w : World} {g k i : Nat} {u : Value} {L : List Qc} (h : QAt w g 0 L) (hk : g ≠ k) : QAt (w.setCell ⟨k, i, none⟩ u) g 0 L := fun j q hj => by
  obtain ⟨h0, h1, h2, h3⟩ := h j q hj
  have e : ∀ o, (w.setCell ⟨k, i, none⟩ u).cell? ⟨g, o, none⟩ = w.cell? ⟨g, o, none⟩ := fun o => World.cell?_of_block (Below.heap_setCell w ⟨k, i, none⟩ u g hk)
  exact ⟨(e _).trans h0, (e _).trans h1, (e _).trans h2, (e _).trans h3⟩
set_option maxRecDepth 100000 in
set_option maxHeartbeats 2000000 in
theorem refSet7 {w : World} {W H X Y n q c p i : Nat} {o : Bool} {L : List Qc} (qc : Qc) (hn : n = H * W) (hL : n = L.length) (hX : X < W) (hY : Y < H) (hp : Y * W = p) (hi : i = p + X) (hW : W ≤ 16384) (hH : H ≤ 16384) (hq : QAt w q 0 L) :
    Calls Try.prog 44 #[.agg (refC (W : Int) (H : Int) q n c o), .int .i64 (X : Int), .int .i64 (Y : Int), .agg #[.int .u8 (qc.r.toNat : Int), .int .u8 (qc.g.toNat : Int), .int .u8 (qc.b.toNat : Int), .int .u8 (qc.a.toNat : Int)]] w fun e w' => ∃ q' c', e = .returned (.agg (refC (W : Int) (H : Int) q' n c' true)) ∧ QAt w' q' 0 (L.set i qc) ∧ w.heap.size ≤ q' ∧ n ≤ c' ∧ Below w.heap.size w w' := by
  unfold refC
  have hin : i < n := by rw [hn, hi, ← hp]; have := row_in (n := W) hY; omega
  have hpb : p ≤ 16384 * 16384 := by rw [← hp]; exact Nat.mul_le_mul (by omega) hW
  have hnb : n ≤ 16384 * 16384 := by rw [hn]; exact Nat.mul_le_mul hH hW
  have HWP := prod3_in hp (by omega)
  have hie : (p : Int) + (X : Int) = (i : Int) := by omega
  have hini : (i : Int) < (n : Int) := by omega
  obtain ⟨wA, hwA⟩ : ∃ wA, wA = (((w.alloc (.cells (refC (W : Int) (H : Int) q n c o) 34)).alloc (.cells #[.int .u8 (qc.r.toNat : Int), .int .u8 (qc.g.toNat : Int), .int .u8 (qc.b.toNat : Int), .int .u8 (qc.a.toNat : Int)] 39)).alloc (.cells refZ 34)).alloc (.cells #[] 39) := ⟨_, rfl⟩
  have HI : Hid (RB wA w.heap.size (W : Int) (H : Int) q n c o ∧ CB wA (w.heap.size + 1) (qc.r.toNat : Int) (qc.g.toNat : Int) (qc.b.toNat : Int) (qc.a.toNat : Int) ∧ RZ wA (w.heap.size + 2) ∧ OwnsQ wA w.heap.size (.slice (some ⟨w.heap.size + 3, 0, none⟩) 0 0) [] ∧ Below w.heap.size w wA) := Lib.hid (by
    subst hwA
    refine ⟨(((Blk.new _ _ _).alloc _).alloc _).alloc _, ((Blk.new_at _ _ _ (by simp)).alloc _).alloc _, (Blk.new_at _ _ _ (by simp)).alloc _, ?_, ((((Below.refl _ _).alloc (Nat.le_refl _) _).alloc (by simp) _).alloc (by simp; omega) _).alloc (by simp; omega) _⟩
    have := World.ownsRow_made (((w.alloc (.cells (refC (W : Int) (H : Int) q n c o) 34)).alloc (.cells #[.int .u8 (qc.r.toNat : Int), .int .u8 (qc.g.toNat : Int), .int .u8 (qc.b.toNat : Int), .int .u8 (qc.a.toNat : Int)] 39)).alloc (.cells refZ 34)) (base := w.heap.size) (e := 39) (size := 4) #[] 0 (by simp; omega) (Nat.zero_le _) rfl
    simpa [OwnsQ, cq] using this)
  have HQ := Lib.hid (hq.below HI.out.2.2.2.2)
  have HLN := Lib.hid hL
  have HLI := Lib.hid (show i < L.length by rw [← hL]; exact hin)
  clear hq hn hL hi hp
  simp only [refC, refZ] at hwA
  go_enter Try.func44, Try.ntmps44
  go_upto_region 2 with fail
  change Code.wp _ _ _ _ ((((w.alloc (.cells #[.int .i64 (W : Int), .int .i64 (H : Int), .slice (some ⟨q, 0, none⟩) n c, .bool o] 34)).alloc (.cells #[.int .u8 (qc.r.toNat : Int), .int .u8 (qc.g.toNat : Int), .int .u8 (qc.b.toNat : Int), .int .u8 (qc.a.toNat : Int)] 39)).alloc (.cells #[.int .i64 0, .int .i64 0, .slice none 0 0, .bool false] 34)).alloc (.cells #[] 39))
  rw [← hwA]
  clear hwA
  have r2 : wA.cell? ⟨w.heap.size, 2, none⟩ = some (.slice (some ⟨q, 0, none⟩) n c) := HI.out.1.c2
  have zA := HI.out.2.2.2.2.size
  have hn0 : 0 < n := by omega
  go_wp2_with (at_builtin; refine wpList_append_cols rfl (.tmp 11) (.tmp 13) rfl w.heap.size _ [] rfl HI.out.2.2.2.1 q n c L HLN.out rfl HQ.out (by rw [← HLN.out]; simp; omega) zA ?_; intro v5 w5 own5 hb5 hg5; obtain ⟨g5, cap5, rfl, ow5⟩ := own5.some_ (M := L) (List.nil_append L) HLN.out hn0; obtain ⟨hgb, -, cs5, hk5, hcs5⟩ := ow5.blk; have R5 : RB w5 w.heap.size (W : Int) (H : Int) q n c o := Blk.grownQ HI.out.1 HI.out.2.2.2.1 (by decide) hg5; have Z5 : RZ w5 (w.heap.size + 2) := Blk.grownQ HI.out.2.2.1 HI.out.2.2.2.1 (by decide) hg5; have C5 : CB w5 (w.heap.size + 1) (qc.r.toNat : Int) (qc.g.toNat : Int) (qc.b.toNat : Int) (qc.a.toNat : Int) := Blk.grown (row := some (w.heap.size + 3)) HI.out.2.1 hg5 (by simp); obtain ⟨qo, hqo⟩ : ∃ qo, L[i]? = some qo := ⟨_, List.getElem?_eq_getElem HLI.out⟩; obtain ⟨k0, k1, k2, k3⟩ := ow5.at_ i qo hqo; rw [Nat.zero_add] at k0 k1 k2 k3; have m0 := Blk.frozen hk5 (i * 4); have m1 := Blk.frozen hk5 (i * 4 + 1); have m2 := Blk.frozen hk5 (i * 4 + 2); have m3 := Blk.frozen hk5 (i * 4 + 3); have x0 := C5.c0; have x1 := C5.c1; have x2 := C5.c2; have x3 := C5.c3; have e0 := R5.c0; have e1 := R5.c1; have ng0 : g5 ≠ w.heap.size := (Blk.ne_ hk5 R5 (by decide)); have ng2 : g5 ≠ w.heap.size + 2 := (Blk.ne_ hk5 Z5 (by decide)); have y0 : w5.cell? ⟨w.heap.size + 2, 0, none⟩ = some (.int .i64 0) := Blk.cell Z5 0; have y1 : w5.cell? ⟨w.heap.size + 2, 1, none⟩ = some (.int .i64 0) := Blk.cell Z5 1; have y2 : w5.cell? ⟨w.heap.size + 2, 2, none⟩ = some (.slice none 0 0) := Blk.cell Z5 2; have y3 : w5.cell? ⟨w.heap.size + 2, 3, none⟩ = some (.bool false) := Blk.cell Z5 3; have yz0 := Blk.frozen Z5 0; have yz1 := Blk.frozen Z5 1; have yz2 := Blk.frozen Z5 2; have yz3 := Blk.frozen Z5 3; have OW := Lib.hid ow5; have HK := Lib.hid hk5; have HZZ := Lib.hid Z5; have HGB := Lib.hid hgb; have HCS := Lib.hid hcs5; have HBB := Lib.hid hb5; clear own5 ow5 hk5 Z5 R5 C5 hqo hg5 hcs5 hb5)
  have Q9 : QAt ((((((((w5.setCell ⟨g5, i * 4, none⟩ (.int .u8 (qc.r.toNat : Int))).setCell ⟨g5, i * 4 + 1, none⟩ (.int .u8 (qc.g.toNat : Int))).setCell ⟨g5, i * 4 + 2, none⟩ (.int .u8 (qc.b.toNat : Int))).setCell ⟨g5, i * 4 + 3, none⟩ (.int .u8 (qc.a.toNat : Int))).setCell ⟨w.heap.size + 2, 0, none⟩ (.int .i64 (W : Int))).setCell ⟨w.heap.size + 2, 1, none⟩ (.int .i64 (H : Int))).setCell ⟨w.heap.size + 2, 2, none⟩ (.slice (some ⟨g5, 0, none⟩) n cap5)).setCell ⟨w.heap.size + 2, 3, none⟩ (.bool true)) g5 0 (L.set i qc) := ((((QAt.set HK.out OW.out.at_ HLI.out (by have := HCS.out; have := HLI.out; omega)).far ng2).far ng2).far ng2).far ng2
  have R9 : RB ((((((((w5.setCell ⟨g5, i * 4, none⟩ (.int .u8 (qc.r.toNat : Int))).setCell ⟨g5, i * 4 + 1, none⟩ (.int .u8 (qc.g.toNat : Int))).setCell ⟨g5, i * 4 + 2, none⟩ (.int .u8 (qc.b.toNat : Int))).setCell ⟨g5, i * 4 + 3, none⟩ (.int .u8 (qc.a.toNat : Int))).setCell ⟨w.heap.size + 2, 0, none⟩ (.int .i64 (W : Int))).setCell ⟨w.heap.size + 2, 1, none⟩ (.int .i64 (H : Int))).setCell ⟨w.heap.size + 2, 2, none⟩ (.slice (some ⟨g5, 0, none⟩) n cap5)).setCell ⟨w.heap.size + 2, 3, none⟩ (.bool true)) (w.heap.size + 2) (W : Int) (H : Int) g5 n cap5 true := (((Blk.set_ (Blk.far (Blk.far (Blk.far (Blk.far HZZ.out (Ne.symm ng2) _) (Ne.symm ng2) _) (Ne.symm ng2) _) (Ne.symm ng2) _) 0 _).set_ 1 _).set_ 2 _).set_ 3 _
  have B9 : Below w.heap.size w ((((((((w5.setCell ⟨g5, i * 4, none⟩ (.int .u8 (qc.r.toNat : Int))).setCell ⟨g5, i * 4 + 1, none⟩ (.int .u8 (qc.g.toNat : Int))).setCell ⟨g5, i * 4 + 2, none⟩ (.int .u8 (qc.b.toNat : Int))).setCell ⟨g5, i * 4 + 3, none⟩ (.int .u8 (qc.a.toNat : Int))).setCell ⟨w.heap.size + 2, 0, none⟩ (.int .i64 (W : Int))).setCell ⟨w.heap.size + 2, 1, none⟩ (.int .i64 (H : Int))).setCell ⟨w.heap.size + 2, 2, none⟩ (.slice (some ⟨g5, 0, none⟩) n cap5)).setCell ⟨w.heap.size + 2, 3, none⟩ (.bool true)) := below_set (below_set (below_set (below_set (below_set (below_set (below_set (below_set (HI.out.2.2.2.2.trans HBB.out) HGB.out) HGB.out) HGB.out) HGB.out) (by omega)) (by omega)) (by omega)) (by omega)
  change bodyPost _ _ _ _ _ ((((((((w5.setCell ⟨g5, i * 4, none⟩ (.int .u8 (qc.r.toNat : Int))).setCell ⟨g5, i * 4 + 1, none⟩ (.int .u8 (qc.g.toNat : Int))).setCell ⟨g5, i * 4 + 2, none⟩ (.int .u8 (qc.b.toNat : Int))).setCell ⟨g5, i * 4 + 3, none⟩ (.int .u8 (qc.a.toNat : Int))).setCell ⟨w.heap.size + 2, 0, none⟩ (.int .i64 (W : Int))).setCell ⟨w.heap.size + 2, 1, none⟩ (.int .i64 (H : Int))).setCell ⟨w.heap.size + 2, 2, none⟩ (.slice (some ⟨g5, 0, none⟩) n cap5)).setCell ⟨w.heap.size + 2, 3, none⟩ (.bool true))
  generalize ((((((((w5.setCell ⟨g5, i * 4, none⟩ (.int .u8 (qc.r.toNat : Int))).setCell ⟨g5, i * 4 + 1, none⟩ (.int .u8 (qc.g.toNat : Int))).setCell ⟨g5, i * 4 + 2, none⟩ (.int .u8 (qc.b.toNat : Int))).setCell ⟨g5, i * 4 + 3, none⟩ (.int .u8 (qc.a.toNat : Int))).setCell ⟨w.heap.size + 2, 0, none⟩ (.int .i64 (W : Int))).setCell ⟨w.heap.size + 2, 1, none⟩ (.int .i64 (H : Int))).setCell ⟨w.heap.size + 2, 2, none⟩ (.slice (some ⟨g5, 0, none⟩) n cap5)).setCell ⟨w.heap.size + 2, 3, none⟩ (.bool true)) = we at Q9 R9 B9 ⊢
  have r0 := R9.c0
  have r1 := R9.c1
  have r2 := R9.c2
  have r3 := R9.c3
  exact bodyPost_ret (v := .agg #[.int .i64 (W : Int), .int .i64 (H : Int), .slice (some ⟨g5, 0, none⟩) n cap5, .bool true]) (by simp [results, Try.results44, go_sem, r0, r1, r2, r3]) rfl ⟨g5, cap5, rfl, Q9, HGB.out, OW.out.cap, B9⟩
end Go.Proofs.Ytfgcbhcfekonnaa
