/- The law RasterPlays. -/
import Derived.Test.YtfgcbhcfekonnaaRasAny
import Derived.Test.YtfgcbhcfekonnaaOpenRas
import Derived.Test.YtfgcbhcfekonnaaRas5
import Derived.Test.YtfgcbhcfekonnaaBits
namespace Go.Proofs.Ytfgcbhcfekonnaa
open Go.RowKit
set_option linter.unusedVariables false
set_option linter.unusedSimpArgs false

theorem lr_new : Led.new 7 7 196 100000 = LR 0 0 0 := rfl
theorem lr_sides {W H : Int} (h1 : 1 ≤ W ∧ W ≤ 7) (h2 : 1 ≤ H ∧ H ≤ 7) : (LR 0 0 0).sides W H = (LR 0 0 0, true) := by
  unfold Led.sides LR
  rw [if_neg (by simp), if_neg (by simp; omega), if_neg (by simp; omega)]
theorem lr_take {z : Int} (h0 : 0 ≤ z) (h : z ≤ 196) : (LR 0 0 0).take z = (LR z z 0, true) := by
  unfold Led.take LR
  rw [if_neg (by simp), if_neg (by simp; omega)]
  simp only [Int.zero_add]
  congr 2
  all_goals first | rfl | omega | (simp; omega)
theorem flat_zero (n : Nat) : flat (List.replicate n q0) = List.replicate (n * 4) 0 := by
  induction n with
  | zero => rfl
  | succ n ih =>
    rw [List.replicate_succ, show (n + 1) * 4 = 4 + n * 4 by omega, ← List.replicate_append_replicate, ← ih]
    simp [flat, Qc.list, q0, List.replicate]
theorem steps7_at {w : World} {g : Nat} {x : Led} {q : Int} (h : LedAt w g x) (e : x.steps = q) :
    Calls Try.prog 15 #[.pointer (some ⟨g, 0, none⟩)] w fun e w' => e = .returned (.int .i64 q) ∧ w = w' := by
  have hc := h.steps
  rw [e] at hc
  clear h e
  go_enter Try.func15, Try.ntmps15
  go_wp2_with (go_at_call 41; refine (load64 _ _ _ hc).mono ?_; rintro e w' ⟨rfl, rfl⟩)
  go_ret
  exact ⟨rfl, rfl⟩
theorem not4 {a b c e f : Nat} (h1 : a ≠ b) (h2 : a ≠ c) (h3 : a ≠ e) (h4 : a ≠ f) : a ∉ [b, c, e, f] := by simp [h1, h2, h3, h4]
theorem Below.stR {B : Nat} {a w : World} {z : Nat} {W H : Int} {q n c : Nat} {o : Bool} (h : Below B a w) (hb : B ≤ z) : Below B a (stR w z W H q n c o) := below_set (below_set (below_set (below_set h hb) hb) hb) hb
theorem RSt.ne_box {w : World} {r g b d W H q n c : Nat} {o : Bool} {L : List Qc} {k p s : Int} {z : Nat} {v : Int} (h : RSt w r g b d W H q n c o L k p s) (hz : w.cell? ⟨z, 0, none⟩ = some (.int .i64 v)) : q ≠ z := by
  rintro rfl
  have h1 : 1 ≤ L.length := by rw [h.D.l_]; exact Nat.mul_le_mul h.D.h1 h.D.w1
  obtain ⟨c0, _⟩ := h.Q 0 _ (List.getElem?_eq_getElem (show 0 < L.length by omega))
  rw [hz] at c0
  cases c0
/-- what holds at each round's head -/
structure PlayR (w0 w : World) (xb r g b d W H q n c : Nat) (o : Bool) (L : List Qc) (k p s : Int) : Prop where
  S : RSt w r g b d W H q n c o L k p s
  X : RB w xb (W : Int) (H : Int) q n c o
  B : Below w0.heap.size w0 w
set_option maxRecDepth 100000 in
set_option maxHeartbeats 4000000 in
theorem plays7 (w : World) (A : Option Addr) (len cap : Nat) (l : List OpZ) (hl : SliceZ w A len l) (W H n z : Nat) (hn : W * H = n) (hz : n * 4 = z) (u0 u1 : Nat) (hWe : 1 + (u0 : Int) = (W : Int)) (hHe : 1 + (u1 : Int) = (H : Int)) (hW7 : W ≤ 7) (hH7 : H ≤ 7)
    (a0 a1 : Int) (ha0 : 0 ≤ a0 ∧ a0 ≤ 255) (ha1 : 0 ≤ a1 ∧ a1 ≤ 255) (h01 : a0 % 7 = (u0 : Int)) (h02 : Int.tmod a0 7 = (u0 : Int)) (h11 : a1 % 7 = (u1 : Int)) (h12 : Int.tmod a1 7 = (u1 : Int)) :
    Calls Try.prog 3 #[.int .u8 a0, .int .u8 a1, .slice A len cap] w fun e w' => e = .returned (.bool true) ∧ Below w.heap.size w w' := by
  have HL := Lib.hid hl
  have hn49 : n ≤ 49 := by rw [← hn]; exact Nat.mul_le_mul hW7 hH7
  have HN := Lib.hid hn
  have HZ := Lib.hid hz
  have hZI : wrap64 (4 * (W : Int) * (H : Int)) = (z : Int) := by
    have e : 4 * (W : Int) * (H : Int) = (z : Int) := by
      rw [show 4 * (W : Int) = ((4 * W : Nat) : Int) by omega, ← Int.natCast_mul, Nat.mul_assoc, hn, ← hz, Nat.mul_comm]
    rw [e]
    exact wrap64_id _ (by omega) (by omega)
  have hw1 : 1 ≤ W := by omega
  have hh1 : 1 ≤ H := by omega
  have hz196 : z ≤ 196 := by omega
  have HD : Hid (Dim W H n (List.replicate n q0)) := Lib.hid ⟨by simp, by rw [List.length_replicate, ← hn, Nat.mul_comm], hw1, hW7, hh1, hH7⟩
  clear hl hn hz
  go_enter Try.func3, Try.ntmps3
  go_wp2_with (first
    | (go_at_call 8; refine (ledNew_at lr_new _).mono ?_; rintro e w0 ⟨g, rfl, hgB, h0, b0⟩)
    | (go_at_call 9; refine (rasNew_yes (W := W) (H := H) (y := n) (z := z) ⟨⟨by omega, by omega⟩, ⟨by omega, by omega⟩⟩ HN.out HZ.out (by omega) h0 (LR.ok (by omega) (by omega) (by omega) (by omega) (by omega)) (lr_sides ⟨by omega, by omega⟩ ⟨by omega, by omega⟩) (lr_take (by omega) (by omega))).mono ?_; rintro e w1 ⟨r, b, d, rfl, hrB, hbB, hdB, r1, m1, l1, t1⟩)
    | (go_at_call 10; refine (rasWidth_at r1).mono ?_; rintro e w9 ⟨rfl, rfl⟩)
    | (go_at_call 11; refine (rasHeight_at r1).mono ?_; rintro e w9 ⟨rfl, rfl⟩)
    | (go_at_call 12; refine (bytes_at l1 lr_bytes).mono ?_; rintro e w9 ⟨rfl, rfl⟩)
    | (go_at_call 13; refine (refNew7 (W := W) (H := H) HN.out (by omega) (by omega)).mono ?_; rintro e w2 ⟨q, rfl, qq, hqB, b2⟩; (try unfold refC)))
  have B1 := Turn.belowNext b0 t1 (by simp; omega) b0.size
  have B2 : Below w.heap.size w w2 := below_next B1 b2
  have hsz0 := b0.size
  have hsz1 := t1.size
  have hsz2 := B2.size
  have S2 : RSt w2 r g b d W H q n n true (List.replicate n q0) (z : Int) (z : Int) 0 :=
    ⟨Blk.below r1 b2 (Blk.lt r1), fun _ => by rw [flat_zero, HZ.out]; exact ⟨Blk.below m1.blk b2 (Blk.lt m1.blk), Blk.below m1.row b2 (Blk.lt m1.row)⟩, Blk.below l1 b2 (Blk.lt l1), qq, HD.out, Nat.le_refl _, by omega, by omega, by omega, by omega, fun _ => by have := HZ.out; omega, by
      have e1 := Blk.lt r1
      have e2 := Blk.lt l1
      have e3 := Blk.lt m1.blk
      have e4 := Blk.lt m1.row
      exact not4 (by omega) (by omega) (by omega) (by omega)⟩
  have hrx := S2.rlt
  have hgx := S2.glt
  have hbx : b < w2.heap.size := Blk.lt (S2.M rfl).blk
  have hdx : d < w2.heap.size := Blk.lt (S2.M rfl).row
  have hrB' : w.heap.size ≤ r := by omega
  have hbB' : w.heap.size ≤ b := by omega
  have hdB' : w.heap.size ≤ d := by omega
  have P2 : PlayR w (w2.alloc (.cells #[.int .i64 (W : Int), .int .i64 (H : Int), .slice (some ⟨q, 0, none⟩) n n, .bool true] 34)) w2.heap.size r g b d W H q n n true (List.replicate n q0) (z : Int) (z : Int) 0 := ⟨S2.alloc _, Blk.new _ _ _, B2.alloc hsz2 _⟩
  have HP2 := Lib.hid P2
  clear r1 m1 l1 t1 h0 b0 b2 B1 B2 S2 P2 hbB hdB hrB qq hqB hsz0 hsz1
  generalize w2.heap.size = xb at HP2 hbx hdx hgx hrx hsz2 ⊢
  go_loopg [13, 14] len (fun m sv iv wr => ∃ (i q c : Nat) (o : Bool) (L : List Qc) (k s : Int), i + m = len ∧ i ≤ 60 ∧ sv = .int .i64 s ∧ iv = .int .i64 (i : Int) ∧ s ≤ 21 * (i : Int) ∧ PlayR w wr xb r g b d W H q n c o L k (z : Int) s)
  case atStart => exact ⟨0, q, n, true, List.replicate n q0, (z : Int), 0, by omega, by omega, rfl, rfl, by omega, HP2.out⟩
  case round =>
    obtain ⟨i, qv, c, o, L, k, s, hi, hi60, rfl, rfl, hs21, hp⟩ := hrel
    have HP := Lib.hid hp
    clear HP2
    by_cases hlt : i < len ∧ i < 60
    · obtain ⟨hin, hi1⟩ := hlt
      obtain rfl | ⟨ob, off, rfl, hmax, hll, hcell⟩ := HL.out
      · omega
      obtain ⟨hfit, c0, c1, c2, c3, c4, c5, c6⟩ := hcell i hin
      have hobB : ob < w.heap.size := World.block_lt_of_cell? w _ c0
      have x0 := (hp.B.cell (p := ⟨ob, off + i * 7, none⟩) hobB).trans c0
      have x1 := (hp.B.cell (p := ⟨ob, off + i * 7 + 1, none⟩) hobB).trans c1
      have x2 := (hp.B.cell (p := ⟨ob, off + i * 7 + 2, none⟩) hobB).trans c2
      have x3 := (hp.B.cell (p := ⟨ob, off + i * 7 + 3, none⟩) hobB).trans c3
      have x4 := (hp.B.cell (p := ⟨ob, off + i * 7 + 4, none⟩) hobB).trans c4
      have x5 := (hp.B.cell (p := ⟨ob, off + i * 7 + 5, none⟩) hobB).trans c5
      have x6 := (hp.B.cell (p := ⟨ob, off + i * 7 + 6, none⟩) hobB).trans c6
      have hltI : (i : Int) < len := by omega
      have hltI' : (i : Int) < 60 := by omega
      clear hcell c0 c1 c2 c3 c4 c5 c6 hll
      obtain ⟨fK, fX, fY⟩ := hfit
      generalize (l.getD i noOpZ).K = oK at fK x0
      generalize (l.getD i noOpZ).X = oX at fX x1
      generalize (l.getD i noOpZ).Y = oY at fY x2
      generalize (l.getD i noOpZ).c = qc at x3 x4 x5 x6
      have hs9 : s ≤ 99000 := by omega
      have s0' : wr.cell? ⟨xb, 0, none⟩ = some (.int .i64 (W : Int)) := RB.c0 hp.X
      have s1' : wr.cell? ⟨xb, 1, none⟩ = some (.int .i64 (H : Int)) := RB.c1 hp.X
      have s2' : wr.cell? ⟨xb, 2, none⟩ = some (.slice (some ⟨qv, 0, none⟩) n c) := RB.c2 hp.X
      have s3' : wr.cell? ⟨xb, 3, none⟩ = some (.bool o) := RB.c3 hp.X
      have hxw := Blk.lt hp.X
      have hobw : ob < wr.heap.size := Nat.lt_of_lt_of_le hobB hp.B.size
      have nob := Nat.ne_of_lt hobw
      have nxw := Nat.ne_of_lt hxw
      have hbw : b < wr.heap.size := by omega
      have hgw : g < wr.heap.size := by omega
      have hdw : d < wr.heap.size := by omega
      have hrw : r < wr.heap.size := by omega
      clear hp fK fX fY
      go_wp2_with fail
      go_cut [15, 16, 17] (fun yv nv okv wc => ∃ (yb q' c' : Nat) (o' : Bool) (L' : List Qc) (k' s' : Int), yv = .pointer (some ⟨yb, 0, none⟩) ∧ nv = .int .i64 s' ∧ okv = .bool true ∧ wr.heap.size ≤ yb ∧ RB wc yb (W : Int) (H : Int) q' n c' o' ∧ RB wc xb (W : Int) (H : Int) qv n c o ∧ RSt wc r g b d W H q' n c' o' L' k' (z : Int) s' ∧ s' ≤ s + 21 ∧ Below w.heap.size w wc)
      case first =>
        go_region_with (go_at_call 14; first
          | (refine (one7_any (K := oK) (X := oX) (Y := oY) (qc := qc) (HP.out.S.drew) hbw hdw hs9).mono ?_; rintro e w4 ⟨q', c', o', L', k', s', rfl, q4, hs1, hs2, t4⟩; (try unfold refC); have gA := trivial)
          | (refine (one7_any (K := oK) (X := oX) (Y := oY) (qc := qc) (HP.out.S.alloc _).drew (by simp; omega) (by simp; omega) hs9).mono ?_; rintro e w4 ⟨q', c', o', L', k', s', rfl, q4, hs1, hs2, t4⟩; (try unfold refC); have gB := trivial; have Y4 : RZ w4 wr.heap.size := Blk.turn (Blk.drew (Blk.new wr _ _)) t4 (not4 (by omega) (by omega) (by omega) (by omega)); have u0 : w4.cell? ⟨wr.heap.size, 0, none⟩ = some (.int .i64 0) := Blk.cell Y4 0; have u1 : w4.cell? ⟨wr.heap.size, 1, none⟩ = some (.int .i64 0) := Blk.cell Y4 1; have u2 : w4.cell? ⟨wr.heap.size, 2, none⟩ = some (.slice none 0 0) := Blk.cell Y4 2; have u3 : w4.cell? ⟨wr.heap.size, 3, none⟩ = some (.bool false) := Blk.cell Y4 3; have zu0 := Blk.frozen Y4 0; have zu1 := Blk.frozen Y4 1; have zu2 := Blk.frozen Y4 2; have zu3 := Blk.frozen Y4 3; have lu := Blk.lt Y4))
        all_goals go_wp2_with fail
        all_goals
          go_meet
          case rel => first
            | (have := gA; exact ⟨w4.heap.size, q', c', o', L', k', s', rfl, rfl, rfl, t4.size, Blk.new _ _ _, Blk.alloc (Blk.turn (Blk.drew HP.out.X) t4 (not4 (by omega) (by omega) (by omega) (by omega))) _, q4.alloc _, hs2, (Turn.belowNext HP.out.B.drew t4 (by simp; omega) HP.out.B.size).alloc (Nat.le_trans HP.out.B.size t4.size) _⟩)
            | (have := gB; exact ⟨wr.heap.size, q', c', o', L', k', s', rfl, rfl, rfl, Nat.le_refl _, RZ.stR Y4, Blk.stR (Blk.turn (Blk.drew (Blk.alloc HP.out.X _)) t4 (not4 (by omega) (by omega) (by omega) (by omega))) (by omega), q4.stR (by omega) (by omega) (by omega) (by omega) (q4.ne_box (Blk.cell Y4 0)), hs2, Below.stR (Turn.belowNext (HP.out.B.alloc HP.out.B.size _).drew t4 (by simp; omega) (by have := HP.out.B.size; simp; omega)) HP.out.B.size⟩)
      case rest =>
        obtain ⟨yb, q', c', o', L', k', s', rfl, rfl, rfl, hyb, hY, hX, hS4, hs2, hB4⟩ := hcut
        have HY := Lib.hid hY
        have HX := Lib.hid hX
        have HS4 := Lib.hid hS4
        have HB4 := Lib.hid hB4
        have v0 : wc.cell? ⟨yb, 0, none⟩ = some (.int .i64 (W : Int)) := RB.c0 hY
        have v1 : wc.cell? ⟨yb, 1, none⟩ = some (.int .i64 (H : Int)) := RB.c1 hY
        have v2 : wc.cell? ⟨yb, 2, none⟩ = some (.slice (some ⟨q', 0, none⟩) n c') := RB.c2 hY
        have v3 : wc.cell? ⟨yb, 3, none⟩ = some (.bool o') := RB.c3 hY
        have g0 : wc.cell? ⟨xb, 0, none⟩ = some (.int .i64 (W : Int)) := RB.c0 hX
        have g1 : wc.cell? ⟨xb, 1, none⟩ = some (.int .i64 (H : Int)) := RB.c1 hX
        have g2 : wc.cell? ⟨xb, 2, none⟩ = some (.slice (some ⟨qv, 0, none⟩) n c) := RB.c2 hX
        have g3 : wc.cell? ⟨xb, 3, none⟩ = some (.bool o) := RB.c3 hX
        have z0 := Blk.frozen hX 0
        have z1 := Blk.frozen hX 1
        have z2 := Blk.frozen hX 2
        have z3 := Blk.frozen hX 3
        have lxx := Blk.lt hX
        have X9 : RB (stR wc xb (W : Int) (H : Int) q' n c' o') xb (W : Int) (H : Int) q' n c' o' := RB.stR hX
        have S9 : RSt (stR wc xb (W : Int) (H : Int) q' n c' o') r g b d W H q' n c' o' L' k' (z : Int) s' := hS4.stR (by omega) (by omega) (by omega) (by omega) (hS4.ne_box g0)
        have B9 : Below w.heap.size w (stR wc xb (W : Int) (H : Int) q' n c' o') := Below.stR hB4 hsz2
        clear hY hX hS4 hB4 s0' s1' s2' s3' x0 x1 x2 x3 x4 x5 x6
        go_upto_region 13 with fail
        change Code.wp _ _ _ _ (stR wc xb (W : Int) (H : Int) q' n c' o')
        generalize (stR wc xb (W : Int) (H : Int) q' n c' o') = wq at X9 S9 B9 ⊢
        clear v0 v1 v2 v3 g0 g1 g2 g3 z0 z1 z2 z3 lxx
        have HX9 := Lib.hid X9
        have HS9 := Lib.hid S9
        have HB9 := Lib.hid B9
        clear X9 S9 B9
        go_wp2_with (go_at_call 15; refine (steps7_at (q := s') HS9.out.G rfl).mono ?_; rintro e w6 ⟨rfl, rfl⟩)
        go_roundg (len - (i + 1))
        case measure => omega
        case rel => exact ⟨i + 1, q', c', o', L', k', s', by omega, by omega, rfl, by go_num, by omega, ⟨HS9.out, HX9.out, HB9.out⟩⟩
    · clear hp
      by_cases hqn : i < len
      · obtain rfl : i = 60 := by omega
        have hqI : ((60 : Nat) : Int) < (len : Int) := by omega
        go_wp2_with (go_at_call 16; refine (awake07_any _).mono ?_; rintro e w5 ⟨rfl, b5⟩)
        go_ret
        exact ⟨rfl, below_next HP.out.B b5⟩
      · have hqJ : ¬ (i : Int) < (len : Int) := by omega
        go_wp2_with (go_at_call 16; refine (awake07_any _).mono ?_; rintro e w5 ⟨rfl, b5⟩)
        go_ret
        exact ⟨rfl, below_next HP.out.B b5⟩
theorem rasterPlays_said (w : World) (a0 : Int) (ha : (Lit.int .u8 a0).wf = true) (a1 : Int) (ha1 : (Lit.int .u8 a1).wf = true) (A : Option Addr) (n cap : Nat) (l : List OpZ) (hl : SliceZ w A n l) :
    Calls Try.prog 3 #[.int .u8 a0, .int .u8 a1, .slice A n cap] w fun e w' => e = .returned (.bool true) ∧ Below w.heap.size w w' := by
  have hb := bounds_u8 ha
  have hb1 := bounds_u8 ha1
  exact plays7 w A n cap l hl (1 + (a0 % 7).toNat) (1 + (a1 % 7).toNat) _ _ rfl rfl (a0 % 7).toNat (a1 % 7).toNat (by omega) (by omega) (by omega) (by omega) a0 a1 hb hb1 (by omega) (by rw [Int.tmod_eq_emod_of_nonneg hb.1]; omega) (by omega) (by rw [Int.tmod_eq_emod_of_nonneg hb1.1]; omega)
end Go.Proofs.Ytfgcbhcfekonnaa
