/- The document's row of a file of PCX's; its bit; its colour. The document's pixel of a file of PCX's. -/
import Derived.Test.YtccldalagbfmhaaGreatPcxP
import Derived.Test.YtccldalagbfmhaaGreatPcxB
import Derived.Test.YtccldalagbfmhaaGreatScale
import Derived.Test.YtccldalagbfmhaaGreatCols
import Derived.BigQuiet
import Derived.Deep.CutRange
namespace Go.Proofs.YtccldalagbfmhaaGreat
open Go.RowKit
set_option linter.unusedVariables false
set_option linter.unusedSimpArgs false

theorem pb8_snoc (L : List Nat) (x : Nat) : pb8 (L ++ [x]) = pb8 L ++ [UInt8.ofNat x] := by simp [pb8]
theorem pcxGet_done {s : ByteArray} {te N f a : Nat} {R : List Nat} (h : N ≤ R.length) : pcxGet s te N f a R = .inr (a, R) := by
  cases f with
  | zero => rfl
  | succ f => unfold pcxGet; rw [if_pos h]
/-- what the document's row is -/
def pcxRowV : (Nat × Nat) ⊕ (Nat × List Nat) → Value
  | .inl g => .tuple #[.string ⟨#[]⟩, .int .i64 0, .int .i64 (g.1 : Int), .int .i64 (g.2 : Int)]
  | .inr g => .tuple #[.string (strOf (pb8 g.2)), .int .i64 (g.1 : Int), .int .i64 0, .int .i64 0]
structure RwI (w0 w : World) (v : Value) (L : List Nat) : Prop where
  O : Owns8 w w0.heap.size v (pb8 L)
  B : Below w0.heap.size w0 w
theorem RwI.sl {w0 w : World} {v : Value} {L : List Nat} (h : RwI w0 w v L) : ∃ a c, v = .slice a L.length c := by
  rcases h.O.2 with ⟨rfl, hn⟩ | ⟨r, cap, cur, rfl, _⟩
  · exact ⟨none, 0, by rw [← pb8_len, hn]⟩
  · exact ⟨_, _, by rw [pb8_len]⟩
set_option maxRecDepth 100000 in
set_option maxHeartbeats 8000000 in
theorem refPcxRow {s : ByteArray} {a te N : Nat} {r : (Nat × Nat) ⊕ (Nat × List Nat)} (hr : pcxGet s te N N a [] = r) (hsm : s.size ≤ 1099511627776) (ha : a ≤ te) (ht : te ≤ s.size) (hN : N ≤ 1099511627775) (w : World) :
    Calls Tryz.prog 78 #[.string s, .int .i64 (a : Int), .int .i64 (te : Int), .int .i64 (N : Int)] w fun e w' => e = .returned (pcxRowV r) ∧ Below w.heap.size w w' := by
  have HR := Lib.hid hr
  have HSZ := Lib.hid hsm
  have hteB : (te : Int) ≤ 1099511627776 := by omega
  clear hr
  go_enter Tryz.func78, Tryz.ntmps78
  go_upto_block 0 with fail
  have I0 : Hid (RwI w (w.alloc (.cells #[] 5)) (.slice (some ⟨w.heap.size, 0, none⟩) 0 0) []) := Lib.hid ⟨Owns8.empty (Nat.le_refl _), (Below.refl _ _).alloc (Nat.le_refl _) _⟩
  go_wp2_with fail
  go_loopg [1, 12, 13, 14, 15, 16] N (fun g v1 v12 v13 v14 v15 v16 wr => ∃ (f k : Nat) (L : List Nat) (m : Nat) (a12 : Option Addr) (c12 : Nat), f = g ∧ L.length = m ∧ v1 = .int .i64 (k : Int) ∧ v12 = .slice a12 m c12 ∧ m ≤ N ∧ N ≤ m + f ∧ k ≤ te ∧ Hid (pcxGet s te N f k L = r) ∧ Hid (RwI w wr v12 L))
  case atStart => exact ⟨N, a, [], 0, _, _, rfl, rfl, rfl, rfl, Nat.zero_le _, by omega, ha, HR, I0⟩
  case round =>
    obtain ⟨f, k, L, m, a12, c12, rfl, hm, rfl, rfl, hmN, hNf, hk, HT, HI⟩ := hrel
    clear HR I0
    have HM := Lib.hid hm
    have hfull' := HT.out
    clear hm
    by_cases hfull : N ≤ m
    · have hI : ¬ (m : Int) < (N : Int) := by omega
      rw [pcxGet_done (by rw [HM.out]; exact hfull)] at hfull'
      have HZ := Lib.hid hfull'
      clear hfull' HT
      have hcv := run_convert_owned HI.out.O 9 Tryz.underlying9
      go_wp2_with fail
      exact bodyPost_ret (v := .tuple #[.string (strOf (pb8 L)), .int .i64 (k : Int), .int .i64 0, .int .i64 0]) (by simp [results, Tryz.results78, go_sem]) rfl ⟨by rw [← HZ.out]; rfl, HI.out.B⟩
    · have hI : (m : Int) < (N : Int) := by omega
      obtain ⟨f, rfl⟩ : ∃ f', f = f' + 1 := ⟨f - 1, by omega⟩
      unfold pcxGet at hfull'
      rw [if_neg (by rw [HM.out]; exact hfull), HM.out] at hfull'
      by_cases hks : k + 1 ≤ te
      · have hksI : ¬ (te : Int) ≤ (k : Int) := by omega
        have hksS : k < s.size := by omega
        have hksJ : (k : Int) < (s.size : Int) := by omega
        have hksK : ¬ s.size ≤ k := by omega
        rw [if_pos hks] at hfull'
        have hb0 := bat_eq hksS
        by_cases hpk : 192 ≤ bat s k
        · have hpkI : (192 : Int) ≤ ((s[k].toNat : Nat) : Int) := by omega
          rw [if_pos hpk] at hfull'
          obtain ⟨k1, hke⟩ : ∃ q, k + 1 = q := ⟨_, rfl⟩
          have hkeI : (k : Int) + 1 = (k1 : Int) := by omega
          rw [show k + 2 = k1 + 1 by omega] at hfull'
          rw [hke] at hfull'
          by_cases hk1 : k1 + 1 ≤ te
          · have hk1I : ¬ (te : Int) ≤ (k1 : Int) := by omega
            have hk1S : k1 < s.size := by omega
            have hk1T : (k1 : Int) < (s.size : Int) := by omega
            have hk1V : ¬ s.size ≤ k1 := by omega
            rw [if_pos hk1] at hfull'
            obtain ⟨c, hc⟩ : ∃ c, bat s k - 192 = c := ⟨_, rfl⟩
            have hcI : ((s[k].toNat : Nat) : Int) - 192 = (c : Int) := by omega
            have hcB : c ≤ 63 := by have := bat_lt s k; omega
            rw [hc] at hfull'
            have hb1 := bat_eq hk1S
            by_cases hbad : c = 0 ∨ N - m < c
            · rw [if_pos hbad] at hfull'
              have HZ := Lib.hid hfull'
              by_cases hc0 : c = 0
              · have hc0B : ((c : Int) == 0) = true := by rw [beq_iff_eq]; omega
                clear hfull' HT hbad hb0 hb1 hpk hc hke
                go_wp2_with fail
                exact bodyPost_ret (v := .tuple #[.string ⟨#[]⟩, .int .i64 0, .int .i64 2, .int .i64 (k : Int)]) (by simp [results, Tryz.results78, go_sem]) rfl ⟨by rw [← HZ.out]; rfl, HI.out.B⟩
              · have hc0B : ((c : Int) == 0) = false := by rw [beq_eq_false_iff_ne]; omega
                have hc1 : (N : Int) - (m : Int) < (c : Int) := by omega
                clear hfull' HT hbad hb0 hb1 hpk hc hke
                go_wp2_with fail
                exact bodyPost_ret (v := .tuple #[.string ⟨#[]⟩, .int .i64 0, .int .i64 2, .int .i64 (k : Int)]) (by simp [results, Tryz.results78, go_sem]) rfl ⟨by rw [← HZ.out]; rfl, HI.out.B⟩
            · rw [if_neg hbad] at hfull'
              have hc0B : ((c : Int) == 0) = false := by rw [beq_eq_false_iff_ne]; omega
              have hc1 : ¬ (N : Int) - (m : Int) < (c : Int) := by omega
              have hcm : m + c ≤ N := by omega
              have hcp : 1 ≤ c := by omega
              obtain ⟨X, hX⟩ : ∃ X, bat s k1 = X := ⟨_, rfl⟩
              rw [hX] at hfull'
              have HU : Hid (UInt8.ofNat X = s[k1]) := Lib.hid (by rw [← hX, hb1]; simp)
              have HNX := Lib.hid hfull'
              obtain ⟨k2, hke2⟩ : ∃ q, k1 + 1 = q := ⟨_, rfl⟩
              have hke2I : (k1 : Int) + 1 = (k2 : Int) := by omega
              have HK2 := Lib.hid hke2
              have hk2 : k2 ≤ te := by omega
              clear hfull' HT hbad hb0 hb1 hpk hc hke hX hke2
              go_wp2_with fail
              go_loopg [12, 16] c (fun g u12 u16 wx => ∃ (i mi : Nat) (b12 : Option Addr) (d12 : Nat), i + g = c ∧ m + i = mi ∧ u16 = .int .i64 (i : Int) ∧ u12 = .slice b12 mi d12 ∧ Hid (RwI w wx u12 (L ++ List.replicate i X)))
              case atStart => exact ⟨0, m, _, _, by omega, rfl, rfl, rfl, Lib.hid (by rw [List.replicate_zero, List.append_nil]; exact HI.out)⟩
              case round =>
                obtain ⟨i, mi, b12, d12, hi, hmi, rfl, rfl, HJ⟩ := hrel
                clear HI
                by_cases hlt : i < c
                · have hi1 : (i : Int) < (c : Int) := by omega
                  have HL8 : (pb8 (L ++ List.replicate i X)).length < 1099511627775 := by rw [pb8_len, List.length_append, List.length_replicate]; have := HM.out; omega
                  have HII := Lib.hid (And.intro hi hmi)
                  have hbs : w.heap.size ≤ wr.heap.size := HJ.out.B.size
                  clear hi hmi
                  go_wp2_with (at_builtin; refine wpList_append_byte rfl (.tmp 62) (.tmp 64) rfl w.heap.size _ (pb8 (L ++ List.replicate i X)) rfl (HJ.out.O.alloc _) _ rfl s[k1] ?_ ?_ ?_ ?_; (exact cell_new _ _ _ 0 _ rfl); (omega); (simp; omega); intro v4 w4 o4 b4 g4)
                  have hu : UInt8.ofNat X = s[k1] := HU.out
                  have J6 : RwI w w4 v4 (L ++ List.replicate (i + 1) X) := by
                    rw [List.replicate_succ', ← List.append_assoc]
                    exact ⟨by rw [pb8_snoc, hu]; exact o4, (HJ.out.B.alloc HJ.out.B.size _).trans b4⟩
                  obtain ⟨e12, f12, h12⟩ := J6.sl
                  rw [List.length_append, List.length_replicate, HM.out] at h12
                  have HJ6 := Lib.hid J6
                  clear o4 b4 g4 J6
                  go_roundg (c - (i + 1))
                  case measure => have := HII.out.1; omega
                  case rel => exact ⟨i + 1, m + (i + 1), e12, f12, by have := HII.out.1; omega, rfl, by go_num, h12, HJ6⟩
                · have hi1 : ¬ (i : Int) < (c : Int) := by omega
                  have him : i = c := by omega
                  have HIM := Lib.hid him
                  have HII := Lib.hid hmi
                  clear him hi hmi
                  go_wp2_with fail
                  go_roundg f
                  case measure => omega
                  case rel => exact ⟨f, k2, L ++ List.replicate i X, mi, b12, d12, rfl, by rw [List.length_append, List.length_replicate, HM.out]; exact HII.out, by first | rfl | go_num, rfl, by have := HII.out; have := HIM.out; omega, by have := HII.out; have := HIM.out; omega, hk2, Lib.hid (by rw [HIM.out, ← HK2.out]; exact HNX.out), HJ⟩
          · have hk1I : (te : Int) ≤ (k1 : Int) := by omega
            rw [if_neg hk1] at hfull'
            have HZ := Lib.hid hfull'
            clear hfull' HT hb0 hpk hke
            go_wp2_with fail
            exact bodyPost_ret (v := .tuple #[.string ⟨#[]⟩, .int .i64 0, .int .i64 1, .int .i64 (te : Int)]) (by simp [results, Tryz.results78, go_sem]) rfl ⟨by rw [← HZ.out]; rfl, HI.out.B⟩
        · have hpkI : ¬ (192 : Int) ≤ ((s[k].toNat : Nat) : Int) := by omega
          rw [if_neg hpk] at hfull'
          obtain ⟨X, hX⟩ : ∃ X, bat s k = X := ⟨_, rfl⟩
          rw [hX] at hfull'
          have HU : Hid (UInt8.ofNat X = s[k]) := Lib.hid (by rw [← hX, hb0]; simp)
          obtain ⟨c, hc⟩ : ∃ c, c = 1 := ⟨_, rfl⟩
          have hcI : (1 : Int) = (c : Int) := by omega
          have hc1 : ¬ (N : Int) - (m : Int) < 1 := by omega
          have hcm : m + 1 ≤ N := by omega
          rw [show L ++ [X] = L ++ List.replicate 1 X from rfl] at hfull'
          obtain ⟨k2, hke2⟩ : ∃ q, k + 1 = q := ⟨_, rfl⟩
          have hke2I : (k : Int) + 1 = (k2 : Int) := by omega
          have hk2 : k2 ≤ te := by omega
          rw [hke2] at hfull'
          have HNX := Lib.hid hfull'
          have HK2 := Lib.hid hke2
          clear hfull' HT hb0 hpk hX hke2 hc hcI
          go_wp2_with fail
          go_loopg [12, 16] 1 (fun g u12 u16 wx => ∃ (i mi : Nat) (b12 : Option Addr) (d12 : Nat), i + g = 1 ∧ m + i = mi ∧ u16 = .int .i64 (i : Int) ∧ u12 = .slice b12 mi d12 ∧ Hid (RwI w wx u12 (L ++ List.replicate i X)))
          case atStart => exact ⟨0, m, _, _, by omega, rfl, rfl, rfl, Lib.hid (by rw [List.replicate_zero, List.append_nil]; exact HI.out)⟩
          case round =>
            obtain ⟨i, mi, b12, d12, hi, hmi, rfl, rfl, HJ⟩ := hrel
            clear HI
            by_cases hlt : i < 1
            · have hi1 : (i : Int) < (1 : Int) := by omega
              have HL8 : (pb8 (L ++ List.replicate i X)).length < 1099511627775 := by rw [pb8_len, List.length_append, List.length_replicate]; have := HM.out; omega
              have HII := Lib.hid (And.intro hi hmi)
              have hbs : w.heap.size ≤ wr.heap.size := HJ.out.B.size
              clear hi hmi
              go_wp2_with (at_builtin; refine wpList_append_byte rfl (.tmp 62) (.tmp 64) rfl w.heap.size _ (pb8 (L ++ List.replicate i X)) rfl (HJ.out.O.alloc _) _ rfl s[k] ?_ ?_ ?_ ?_; (exact cell_new _ _ _ 0 _ rfl); (omega); (simp; omega); intro v4 w4 o4 b4 g4)
              have hu : UInt8.ofNat X = s[k] := HU.out
              have J6 : RwI w w4 v4 (L ++ List.replicate (i + 1) X) := by
                rw [List.replicate_succ', ← List.append_assoc]
                exact ⟨by rw [pb8_snoc, hu]; exact o4, (HJ.out.B.alloc HJ.out.B.size _).trans b4⟩
              obtain ⟨e12, f12, h12⟩ := J6.sl
              rw [List.length_append, List.length_replicate, HM.out] at h12
              have HJ6 := Lib.hid J6
              clear o4 b4 g4 J6
              go_roundg (1 - (i + 1))
              case measure => have := HII.out.1; omega
              case rel => exact ⟨i + 1, m + (i + 1), e12, f12, by have := HII.out.1; omega, rfl, by go_num, h12, HJ6⟩
            · have hi1 : ¬ (i : Int) < (1 : Int) := by omega
              have him : i = 1 := by omega
              have HIM := Lib.hid him
              have HII := Lib.hid hmi
              clear him hi hmi
              go_wp2_with fail
              go_roundg f
              case measure => omega
              case rel => exact ⟨f, k2, L ++ List.replicate i X, mi, b12, d12, rfl, by rw [List.length_append, List.length_replicate, HM.out]; exact HII.out, by first | rfl | go_num, rfl, by have := HII.out; have := HIM.out; omega, by have := HII.out; have := HIM.out; omega, hk2, Lib.hid (by rw [HIM.out]; exact HNX.out), HJ⟩
      · have hksI : (te : Int) ≤ (k : Int) := by omega
        rw [if_neg hks] at hfull'
        have HZ := Lib.hid hfull'
        clear hfull' HT
        go_wp2_with fail
        exact bodyPost_ret (v := .tuple #[.string ⟨#[]⟩, .int .i64 0, .int .i64 1, .int .i64 (te : Int)]) (by simp [results, Tryz.results78, go_sem]) rfl ⟨by rw [← HZ.out]; rfl, HI.out.B⟩
set_option maxRecDepth 100000 in
set_option maxHeartbeats 2000000 in
theorem refPcxBit {b : ByteArray} {x v : Nat} (hx : x / 8 < b.size) (hx2 : x ≤ 65535) (hv : bat b (x / 8) / 2 ^ (7 - x % 8) % 2 = v) (w : World) :
    Calls Tryz.prog 161 #[.string b, .int .i64 (x : Int)] w fun e w' => e = .returned (.int .i64 (v : Int)) ∧ Below w.heap.size w w' := by
  have hb0 := bat_eq hx
  obtain ⟨X, hX⟩ : ∃ X, bat b (x / 8) = X := ⟨_, rfl⟩
  obtain ⟨i, hi⟩ : ∃ i, x / 8 = i := ⟨_, rfl⟩
  have hii : i < b.size := by omega
  have hXl : X < 256 := by rw [← hX]; exact bat_lt _ _
  have hXs : b[i].toNat = X := by subst hi; rw [← hX, hb0]
  have hiI : (x : Int) / 8 = (i : Int) := by omega
  have hiJ : (i : Int) < (b.size : Int) := by omega
  rw [hX] at hv
  obtain ⟨j, hj⟩ : ∃ j, 7 - x % 8 = j := ⟨_, rfl⟩
  have hjI : 7 - (x : Int) % 8 = (j : Int) := by omega
  obtain ⟨q, hq⟩ : ∃ q, 2 ^ j = q := ⟨_, rfl⟩
  have HPW := Lib.hid (fun w => refPower_any j w (by omega))
  rw [hq] at HPW
  have hq1 : 1 ≤ q := by rw [← hq]; exact Nat.one_le_two_pow
  have hqI : ¬ (q : Int) = 0 := by omega
  have hqB : ((q : Int) == 0) = false := by rw [beq_eq_false_iff_ne]; omega
  rw [hj, hq] at hv
  obtain ⟨y, hy⟩ : ∃ y, X / q = y := ⟨_, rfl⟩
  have hyI : (X : Int) / (q : Int) = (y : Int) := by rw [← Int.natCast_ediv, hy]
  have hyl : y ≤ X := by rw [← hy]; exact Nat.div_le_self _ _
  rw [hy] at hv
  have hvI : (y : Int) % 2 = (v : Int) := by omega
  have hvl : v ≤ 1 := by omega
  have w1 : IntKind.i64.wrap (i : Int) = (i : Int) := IntWalk.i64_in _ (by omega)
  have w2 : IntKind.i64.wrap (j : Int) = (j : Int) := IntWalk.i64_in _ (by omega)
  have w3 : IntKind.i64.wrap (X : Int) = (X : Int) := IntWalk.i64_in _ (by omega)
  have w4 : IntKind.i64.wrap (y : Int) = (y : Int) := IntWalk.i64_in _ (by omega)
  have w5 : IntKind.i64.wrap (v : Int) = (v : Int) := IntWalk.i64_in _ (by omega)
  have w6 : IntKind.i64.wrap ((x : Int) % 8) = (x : Int) % 8 := IntWalk.i64_in _ (by omega)
  clear hb0 hX hj hq hy hi hx hv
  go_enter Tryz.func161, Tryz.ntmps161
  go_upto_region 1 with fail
  go_quiet ((first | (go_at_call 145; exact Calls.quiet_of_same ((HPW.out _).mono fun _ _ ⟨h, k⟩ => ⟨h, k.symm⟩)) | fail))
  go_wp2_with fail
  exact bodyPost_ret (v := .int .i64 (v : Int)) (by simp [results, Tryz.results161, go_sem, hvI]) rfl ⟨rfl, ⟨rfl, rfl, rfl, Nat.le_refl _, fun _ _ => rfl⟩⟩
set_option maxHeartbeats 2000000 in
theorem refPcxColor {b : ByteArray} {u0 u1 u2 : UInt8} (hb : 3 ≤ b.size) (h0 : b[0]'(by omega) = u0) (h1 : b[1]'(by omega) = u1) (h2 : b[2]'(by omega) = u2) (w : World) :
    Calls Tryz.prog 160 #[.string b] w fun e w' => e = .returned (Qc.v ⟨u0, u1, u2, 255⟩) ∧ Below w.heap.size w w' := by
  have n0 : 0 < b.size := by omega
  have n1 : 1 < b.size := by omega
  have n2 : 2 < b.size := by omega
  have j0 : (0 : Int) < (b.size : Int) := by omega
  have j1 : (1 : Int) < (b.size : Int) := by omega
  have j2 : (2 : Int) < (b.size : Int) := by omega
  go_enter Tryz.func160, Tryz.ntmps160
  go_upto_region 1 with fail
  go_region
  go_wp2_with fail
  exact bodyPost_ret (v := Qc.v ⟨u0, u1, u2, 255⟩) (by simp [results, Tryz.results160, go_sem, Qc.v]) rfl ⟨rfl, ((Below.refl w.heap.size w).alloc (Nat.le_refl _) _).drew⟩
end Go.Proofs.YtccldalagbfmhaaGreat
namespace Go.Proofs.YtccldalagbfmhaaGreat
open Go.RowKit
set_option linter.unusedVariables false
set_option linter.unusedSimpArgs false

/-- the box of a head, and of a colour that is not told yet -/
structure PpI (w0 w : World) (W H d p l : Nat) : Prop where
  A : Blk w w0.heap.size 141 #[.int .i64 (W : Int), .int .i64 (H : Int), .int .i64 (d : Int), .int .i64 (p : Int), .int .i64 (l : Int), .int .i64 0, .int .i64 0]
  C : Blk w (w0.heap.size + 1) 131 #[.int .u8 0, .int .u8 0, .int .u8 0, .int .u8 0]
  B : Below w0.heap.size w0 w
section
variable {w0 w w' : World} {W H d p l : Nat}
theorem PpI.new (w : World) (W H d p l : Nat) : PpI w ((w.alloc (.cells #[.int .i64 (W : Int), .int .i64 (H : Int), .int .i64 (d : Int), .int .i64 (p : Int), .int .i64 (l : Int), .int .i64 0, .int .i64 0] 141)).alloc (.cells #[.int .u8 0, .int .u8 0, .int .u8 0, .int .u8 0] 131)) W H d p l :=
  ⟨Blk.alloc (Blk.new _ _ _) _, Blk.new_at _ _ _ (by simp), ((Below.refl _ _).alloc (Nat.le_refl _) _).alloc (by simp) _⟩
theorem PpI.below (h : PpI w0 w W H d p l) (b : Below w.heap.size w w') : PpI w0 w' W H d p l := ⟨Blk.below h.A b (Blk.lt h.A), Blk.below h.C b (Blk.lt h.C), below_next h.B b⟩
theorem PpI.all (h : PpI w0 w W H d p l) : w.cell? ⟨w0.heap.size, 2, none⟩ = some (.int .i64 (d : Int)) ∧ w.cell? ⟨w0.heap.size, 3, none⟩ = some (.int .i64 (p : Int)) ∧ w.cell? ⟨w0.heap.size, 4, none⟩ = some (.int .i64 (l : Int)) ∧
    w.cell? ⟨w0.heap.size + 1, 0, none⟩ = some (.int .u8 0) ∧ w.cell? ⟨w0.heap.size + 1, 1, none⟩ = some (.int .u8 0) ∧ w.cell? ⟨w0.heap.size + 1, 2, none⟩ = some (.int .u8 0) ∧ w.cell? ⟨w0.heap.size + 1, 3, none⟩ = some (.int .u8 0) ∧
    w.frozen? ⟨w0.heap.size + 1, 0, none⟩ = false ∧ w.frozen? ⟨w0.heap.size + 1, 1, none⟩ = false ∧ w.frozen? ⟨w0.heap.size + 1, 2, none⟩ = false ∧ w.frozen? ⟨w0.heap.size + 1, 3, none⟩ = false ∧ w0.heap.size < w.heap.size ∧ w0.heap.size + 1 < w.heap.size :=
  ⟨Blk.cell h.A 2, Blk.cell h.A 3, Blk.cell h.A 4, Blk.cell h.C 0, Blk.cell h.C 1, Blk.cell h.C 2, Blk.cell h.C 3, Blk.frozen h.C 0, Blk.frozen h.C 1, Blk.frozen h.C 2, Blk.frozen h.C 3, Blk.lt h.A, Blk.lt h.C⟩
theorem PpI.fin (h : PpI w0 w W H d p l) {u0 u1 u2 u3 : Value} : Below w0.heap.size w0 ((((w.setCell ⟨w0.heap.size + 1, 0, none⟩ u0).setCell ⟨w0.heap.size + 1, 1, none⟩ u1).setCell ⟨w0.heap.size + 1, 2, none⟩ u2).setCell ⟨w0.heap.size + 1, 3, none⟩ u3) :=
  below_set (below_set (below_set (below_set h.B (by omega)) (by omega)) (by omega)) (by omega)
end
theorem refGrayP {v : Nat} (hv : v ≤ 255) (w : World) : Calls Tryz.prog 146 #[.int .i64 (v : Int)] w fun e w' => e = .returned (pcxGray v).v ∧ Below w.heap.size w w' := by
  have hvI : (v : Int) ≤ 255 := by omega
  have hu : ((UInt8.ofNat v).toNat : Int) = (v : Int) := by rw [UInt8.toNat_ofNat', Nat.mod_eq_of_lt (by omega)]
  have hw : (v : Int) % 256 = (v : Int) := by omega
  go_enter Tryz.func146, Tryz.ntmps146
  go_wp2_with fail
  exact bodyPost_ret (v := (pcxGray v).v) (by simp [results, Tryz.results146, go_sem, pcxGray, Qc.v, hu, hw]) rfl ⟨rfl, (Below.refl _ _).alloc (Nat.le_refl _) _⟩
theorem ofBatP {b : ByteArray} {i : Nat} (h : i < b.size) : UInt8.ofNat (bat b i) = b[i] := by rw [bat_eq h]; simp
theorem bat_pb8 {R : List Nat} (h : ∀ v ∈ R, v < 256) (i : Nat) : bat (strOf (pb8 R)) i = R.getD i 0 := by
  unfold bat nats
  rw [strOf_toList]
  unfold pb8
  simp only [List.getD_eq_getElem?_getD, List.getElem?_map]
  by_cases hi : i < R.length
  · rw [List.getElem?_eq_getElem hi]
    simp only [Option.map_some, Option.getD_some]
    rw [UInt8.toNat_ofNat', Nat.mod_eq_of_lt (h _ (List.getElem_mem hi))]
  · rw [List.getElem?_eq_none (by omega)]
    rfl
theorem bat_tail (b : ByteArray) {a i : Nat} (h : a + i < b.size) : bat (b.extract a b.size) i = bat b (a + i) := by
  have e : b.size = a + (b.size - a) := by omega
  rw [e]
  exact bat_extract b a _ i (by omega)
theorem ent_tail (s : ByteArray) {a : Nat} (h : a + 3 ≤ s.size) (w : World) : Calls Tryz.prog 160 #[.string (s.extract a s.size)] w fun e w' => e = .returned (Qc.v (pcxEnt s a)) ∧ Below w.heap.size w w' := by
  have hz : (s.extract a s.size).size = s.size - a := by rw [ByteArray.size_extract]; omega
  refine refPcxColor (by omega) ?_ ?_ ?_ w
  · rw [← ofBatP]; unfold b8; rw [bat_tail s (by omega)]; rfl
  · rw [← ofBatP]; unfold b8; rw [bat_tail s (by omega)]
  · rw [← ofBatP]; unfold b8; rw [bat_tail s (by omega)]
set_option maxRecDepth 100000 in
set_option maxHeartbeats 2000000 in
theorem refPcxPix24 {s b : ByteArray} {W H l x : Nat} (hl : l ≤ 65535) (hx : x < l) (hb : 3 * l ≤ b.size) (hbs : b.size ≤ 1099511627776) (w : World) :
    Calls Tryz.prog 79 #[.string s, hdP (W : Int) (H : Int) ((8 : Nat) : Int) ((3 : Nat) : Int) (l : Int) 0 0, .string b, .int .i64 (x : Int)] w fun e w' => e = .returned (Qc.v (⟨b[x]'(by omega), b[l + x]'(by omega), b[2 * l + x]'(by omega), 255⟩)) ∧ Below w.heap.size w w' := by
  obtain ⟨i1, e1⟩ : ∃ i, l + x = i := ⟨_, rfl⟩
  obtain ⟨i2, e2⟩ : ∃ i, 2 * l + x = i := ⟨_, rfl⟩
  have q1 : (l : Int) + (x : Int) = (i1 : Int) := by omega
  have q2 : 2 * (l : Int) + (x : Int) = (i2 : Int) := by omega
  have l0 : x < b.size := by omega
  have l1 : i1 < b.size := by omega
  have l2 : i2 < b.size := by omega
  have l0I : (x : Int) < (b.size : Int) := by omega
  have l1I : (i1 : Int) < (b.size : Int) := by omega
  have l2I : (i2 : Int) < (b.size : Int) := by omega
  have HE : Hid ((⟨b[x], b[l + x]'(by omega), b[2 * l + x]'(by omega), 255⟩ : Qc) = ⟨b[x], b[i1], b[i2], 255⟩) := Lib.hid (by subst e1 e2; rfl)
  rw [HE.out]
  clear HE e1 e2
  have I0 := PpI.new w W H 8 3 l
  unfold hdP
  go_enter Tryz.func79, Tryz.ntmps79
  go_upto_region 1 with fail
  generalize hws : (w.alloc (.cells #[.int .i64 (W : Int), .int .i64 (H : Int), .int .i64 ((8 : Nat) : Int), .int .i64 ((3 : Nat) : Int), .int .i64 (l : Int), .int .i64 0, .int .i64 0] 141)).alloc (.cells #[.int .u8 0, .int .u8 0, .int .u8 0, .int .u8 0] 131) = ws at I0 ⊢
  have HI := Lib.hid I0
  clear I0 hws
  obtain ⟨a2, a3, a4, c0, c1, c2, c3, z0, z1, z2, z3, al, cl⟩ := HI.out.all
  go_wp2_with fail
  go_region
  go_wp2_with fail
  exact bodyPost_ret (v := Qc.v ⟨b[x], b[i1], b[i2], 255⟩) (by simp [results, Tryz.results79, go_sem, Qc.v, c0, c1, c2, c3]) rfl ⟨rfl, HI.out.fin.drew⟩
set_option maxRecDepth 100000 in
set_option maxHeartbeats 2000000 in
theorem refPcxPix8 {s b : ByteArray} {W H l x : Nat} (hx : x < b.size) (hb : b.size ≤ 1099511627776) (hsm : s.size ≤ 1099511627776) (hs : 897 ≤ s.size) (w : World) :
    Calls Tryz.prog 79 #[.string s, hdP (W : Int) (H : Int) ((8 : Nat) : Int) ((1 : Nat) : Int) (l : Int) 0 0, .string b, .int .i64 (x : Int)] w fun e w' => e = .returned (Qc.v (pcxEnt s (s.size - 768 + 3 * bat b x))) ∧ Below w.heap.size w w' := by
  have hb0 := bat_eq hx
  obtain ⟨X, hX⟩ : ∃ X, bat b x = X := ⟨_, rfl⟩
  have hXs : b[x].toNat = X := by rw [← hX, hb0]
  have hXl : X < 256 := by rw [← hX]; exact bat_lt _ _
  rw [hX]
  obtain ⟨i, hi⟩ : ∃ i, s.size - 768 + 3 * X = i := ⟨_, rfl⟩
  rw [hi]
  have q : (s.size : Int) - 768 + 3 * (X : Int) = (i : Int) := by omega
  have HC := Lib.hid (fun w => ent_tail s (a := i) (by omega) w)
  have hxI : (x : Int) < (b.size : Int) := by omega
  have hiS : i ≤ s.size := by omega
  have hiI : (i : Int) ≤ (s.size : Int) := by omega
  have hsB : (s.size : Int) ≤ 1099511627776 := by omega
  unfold Qc.v at HC
  clear hb0 hX hi
  have I0 := PpI.new w W H 8 1 l
  unfold hdP
  go_enter Tryz.func79, Tryz.ntmps79
  go_upto_region 1 with fail
  generalize hws : (w.alloc (.cells #[.int .i64 (W : Int), .int .i64 (H : Int), .int .i64 ((8 : Nat) : Int), .int .i64 ((1 : Nat) : Int), .int .i64 (l : Int), .int .i64 0, .int .i64 0] 141)).alloc (.cells #[.int .u8 0, .int .u8 0, .int .u8 0, .int .u8 0] 131) = ws at I0 ⊢
  have HI := Lib.hid I0
  clear I0 hws
  obtain ⟨a2, a3, a4, c0, c1, c2, c3, z0, z1, z2, z3, al, cl⟩ := HI.out.all
  go_wp2_with (first | (go_at_call 160; refine (HC.out _).mono ?_; rintro e w2 ⟨rfl, b2⟩; have I2 := HI.out.below b2; clear a2 a3 a4 c0 c1 c2 c3 z0 z1 z2 z3 al cl; obtain ⟨a2, a3, a4, c0, c1, c2, c3, z0, z1, z2, z3, al, cl⟩ := I2.all) | fail)
  exact bodyPost_ret (v := Qc.v (pcxEnt s i)) (by simp [results, Tryz.results79, go_sem, Qc.v, c0, c1, c2, c3]) rfl ⟨rfl, I2.fin⟩
set_option maxRecDepth 100000 in
set_option maxHeartbeats 2000000 in
theorem refPcxPix1 {s b : ByteArray} {W H l x : Nat} {v : Nat} (hx : x / 8 < b.size) (hx2 : x ≤ 65535) (hv : bat b (x / 8) / 2 ^ (7 - x % 8) % 2 = v) (w : World) :
    Calls Tryz.prog 79 #[.string s, hdP (W : Int) (H : Int) ((1 : Nat) : Int) ((1 : Nat) : Int) (l : Int) 0 0, .string b, .int .i64 (x : Int)] w fun e w' => e = .returned (Qc.v (pcxGray (255 * v))) ∧ Below w.heap.size w w' := by
  have hvl : v ≤ 1 := by omega
  have HB := Lib.hid (fun w => refPcxBit hx hx2 hv w)
  obtain ⟨g, hg⟩ : ∃ g, 255 * v = g := ⟨_, rfl⟩
  rw [hg]
  have hgI : 255 * (v : Int) = (g : Int) := by omega
  have HG := Lib.hid (fun w => refGrayP (v := g) (by omega) w)
  unfold Qc.v pcxGray at HG
  clear hv hg
  have I0 := PpI.new w W H 1 1 l
  unfold hdP
  go_enter Tryz.func79, Tryz.ntmps79
  go_upto_region 1 with fail
  generalize hws : (w.alloc (.cells #[.int .i64 (W : Int), .int .i64 (H : Int), .int .i64 ((1 : Nat) : Int), .int .i64 ((1 : Nat) : Int), .int .i64 (l : Int), .int .i64 0, .int .i64 0] 141)).alloc (.cells #[.int .u8 0, .int .u8 0, .int .u8 0, .int .u8 0] 131) = ws at I0 ⊢
  have HI := Lib.hid I0
  clear I0 hws
  obtain ⟨a2, a3, a4, c0, c1, c2, c3, z0, z1, z2, z3, al, cl⟩ := HI.out.all
  go_wp2_with (first | (go_at_call 161; refine (HB.out _).mono ?_; rintro e w2 ⟨rfl, b2⟩; have I2 := HI.out.below b2; clear a2 a3 a4 c0 c1 c2 c3 z0 z1 z2 z3 al cl; obtain ⟨a2, a3, a4, c0, c1, c2, c3, z0, z1, z2, z3, al, cl⟩ := I2.all) | (go_at_call 146; refine (HG.out _).mono ?_; rintro e w3 ⟨rfl, b3⟩; have I3 := I2.below b3; clear a2 a3 a4 c0 c1 c2 c3 z0 z1 z2 z3 al cl; obtain ⟨a2, a3, a4, c0, c1, c2, c3, z0, z1, z2, z3, al, cl⟩ := I3.all) | fail)
  exact bodyPost_ret (v := Qc.v (pcxGray g)) (by simp [results, Tryz.results79, go_sem, Qc.v, pcxGray, c0, c1, c2, c3]) rfl ⟨rfl, I3.fin⟩
/-- a number of bits, the highest first -/
def pnum (B : Nat → Nat) : Nat → Nat
  | 0 => 0
  | k + 1 => 2 * pnum B k + B (3 - k)
theorem pnum_lt {B : Nat → Nat} (h : ∀ i, B i ≤ 1) : ∀ k, pnum B k < 2 ^ k := by
  intro k
  induction k with
  | zero => show (0 : Nat) < 2 ^ 0; decide
  | succ k ih => have := h (3 - k); rw [Nat.pow_succ]; unfold pnum; omega
/-- a plane's bit -/
def pbit (b : ByteArray) (l x p : Nat) : Nat := bat b (p * l + x / 8) / 2 ^ (7 - x % 8) % 2
set_option maxRecDepth 100000 in
set_option maxHeartbeats 2000000 in
theorem refPcxPix4 {s b : ByteArray} {W H l x : Nat} (hl : l ≤ 65535) (hx : x / 8 < l) (hx2 : x ≤ 65535) (hb : 4 * l ≤ b.size) (hbm : b.size ≤ 1099511627776) (hsm : s.size ≤ 1099511627776) (hs : 128 ≤ s.size) (w : World) :
    Calls Tryz.prog 79 #[.string s, hdP (W : Int) (H : Int) ((1 : Nat) : Int) ((4 : Nat) : Int) (l : Int) 0 0, .string b, .int .i64 (x : Int)] w fun e w' => e = .returned (Qc.v (pcxEnt s (16 + 3 * pnum (pbit b l x) 4))) ∧ Below w.heap.size w w' := by
  have hlt := pnum_lt (B := pbit b l x) (fun i => by unfold pbit; omega)
  have HLT := Lib.hid hlt
  have h16 := hlt 4
  have HPW : Hid (∀ k, k < 4 → (2 : Nat) ^ k ≤ 8) := Lib.hid (fun k hk => by
    have : k = 0 ∨ k = 1 ∨ k = 2 ∨ k = 3 := by omega
    rcases this with rfl | rfl | rfl | rfl <;> decide)
  have h16' : pnum (pbit b l x) 4 < 16 := h16
  obtain ⟨i, hi⟩ : ∃ i, 16 + 3 * pnum (pbit b l x) 4 = i := ⟨_, rfl⟩
  rw [hi]
  have HC := Lib.hid (fun w => ent_tail s (a := i) (by omega) w)
  have hiS : i ≤ s.size := by omega
  have hiI : (i : Int) ≤ (s.size : Int) := by omega
  have HII := Lib.hid hi
  have hsB : (s.size : Int) ≤ 1099511627776 := by omega
  unfold Qc.v at HC
  clear hlt h16 h16' hi
  have I0 := PpI.new w W H 1 4 l
  unfold hdP
  go_enter Tryz.func79, Tryz.ntmps79
  go_upto_region 1 with fail
  generalize hws : (w.alloc (.cells #[.int .i64 (W : Int), .int .i64 (H : Int), .int .i64 ((1 : Nat) : Int), .int .i64 ((4 : Nat) : Int), .int .i64 (l : Int), .int .i64 0, .int .i64 0] 141)).alloc (.cells #[.int .u8 0, .int .u8 0, .int .u8 0, .int .u8 0] 131) = ws at I0 ⊢
  have HI := Lib.hid I0
  clear I0 hws
  obtain ⟨a2, a3, a4, c0, c1, c2, c3, z0, z1, z2, z3, al, cl⟩ := HI.out.all
  go_wp2_with fail
  go_loopg [9, 10] 4 (fun g v9 v10 wr => ∃ k nn : Nat, k + g = 4 ∧ pnum (pbit b l x) k = nn ∧ v9 = .int .i64 (nn : Int) ∧ v10 = .int .i64 (3 - (k : Int)) ∧ Hid (PpI w wr W H 1 4 l))
  case atStart => exact ⟨0, 0, by omega, rfl, rfl, rfl, HI⟩
  case round =>
    obtain ⟨k, nn, hk, hn, rfl, rfl, HJ⟩ := hrel
    clear HI a2 a3 a4 c0 c1 c2 c3 z0 z1 z2 z3 al cl
    obtain ⟨a2, a3, a4, c0, c1, c2, c3, z0, z1, z2, z3, al, cl⟩ := HJ.out.all
    by_cases hk4 : k < 4
    · obtain ⟨p, hp⟩ : ∃ p, 3 - k = p := ⟨_, rfl⟩
      have hpI : 3 - (k : Int) = (p : Int) := by omega
      have hp3 : p ≤ 3 := by omega
      have hn8 : nn < 8 := by have h1 := HLT.out k; have h2 := HPW.out k hk4; omega
      obtain ⟨pl, hpl⟩ : ∃ pl, p * l = pl := ⟨_, rfl⟩
      have hplI : (p : Int) * (l : Int) = (pl : Int) := by rw [← Int.natCast_mul, hpl]
      have hpl3 : pl ≤ 3 * l := by rw [← hpl]; exact Nat.mul_le_mul hp3 (Nat.le_refl _)
      have hplS : pl ≤ b.size := by omega
      have hplT : (pl : Int) ≤ (b.size : Int) := by omega
      obtain ⟨v, hv⟩ : ∃ v, pbit b l x p = v := ⟨_, rfl⟩
      have hvl : v ≤ 1 := by rw [← hv]; unfold pbit; omega
      have HB := Lib.hid (fun w => refPcxBit (b := b.extract pl b.size) (x := x) (v := v) (by rw [ByteArray.size_extract]; omega) hx2 (by rw [bat_tail b (by omega)]; rw [← hv, ← hpl]; rfl) w)
      have HN : Hid (pnum (pbit b l x) (k + 1) = 2 * nn + v) := Lib.hid (by rw [pnum, hn, hp, hv])
      have hpN : (0 : Int) ≤ (p : Int) := by omega
      clear hp hpl hv hn
      rw [hpI]
      go_wp2_with (first | (go_at_call 161; refine (HB.out _).mono ?_; rintro e w2 ⟨rfl, b2⟩; have J2 := HJ.out.below b2) | fail)
      have HJ2 := Lib.hid J2
      clear J2 a2 a3 a4 c0 c1 c2 c3 z0 z1 z2 z3 al cl
      go_roundg (3 - k)
      case measure => omega
      case rel => exact ⟨k + 1, 2 * nn + v, by omega, HN.out, by go_num, by go_num, HJ2⟩
    · obtain rfl : k = 4 := by omega
      have q : 16 + 3 * (nn : Int) = (i : Int) := by have := HII.out; omega
      have hn16 : nn < 16 := by have h1 := HLT.out 4; rw [hn] at h1; exact h1
      clear hn
      go_wp2_with (first | (go_at_call 160; refine (HC.out _).mono ?_; rintro e w2 ⟨rfl, b2⟩; have I2 := HJ.out.below b2; clear a2 a3 a4 c0 c1 c2 c3 z0 z1 z2 z3 al cl; obtain ⟨a2, a3, a4, c0, c1, c2, c3, z0, z1, z2, z3, al, cl⟩ := I2.all) | fail)
      exact bodyPost_ret (v := Qc.v (pcxEnt s i)) (by simp [results, Tryz.results79, go_sem, Qc.v, c0, c1, c2, c3]) rfl ⟨rfl, I2.fin⟩
theorem refPcxPixel {s : ByteArray} {h : PcxHd} {R : List Nat} {x : Nat} (ok : h.Ok) (hR : R.length = h.row) (hx : x < h.W) (hR8 : ∀ v ∈ R, v < 256) (hsm : s.size ≤ 1099511627776) (hs : 128 ≤ s.size) (hm : h.Map → 897 ≤ s.size) (w : World) :
    Calls Tryz.prog 79 #[.string s, hdP (h.W : Int) (h.H : Int) (h.bits : Int) (h.planes : Int) (h.line : Int) 0 0, .string (strOf (pb8 R)), .int .i64 (x : Int)] w fun e w' => e = .returned (Qc.v (pcxQ s h R x)) ∧ Below w.heap.size w w' := by
  obtain ⟨b, hb⟩ : ∃ b, strOf (pb8 R) = b := ⟨_, rfl⟩
  have hbs : b.size = h.row := by rw [← hb, strOf_size, pb8_len, hR]
  have hbt : ∀ i, bat b i = R.getD i 0 := fun i => by rw [← hb]; exact bat_pb8 hR8 i
  rw [hb]
  clear hb
  obtain ⟨W, H, d, p, l⟩ := h
  obtain ⟨w1, w2, h1, h2, pr, l1, l2⟩ := ok
  simp only at w1 w2 h1 h2 pr l1 l2 hx ⊢
  unfold PcxHd.row at hbs
  simp only at hbs
  unfold PcxHd.Map at hm
  simp only at hm
  unfold PcxPair at pr
  unfold pcxQ pcxNum pcxBit
  simp only
  rcases pr with ⟨rfl, rfl | rfl⟩ | ⟨rfl, rfl | rfl⟩
  · have hbs' : b.size = l := by omega
    have := refPcxPix8 (s := s) (b := b) (W := W) (H := H) (l := l) (x := x) (by omega) (by omega) hsm (hm ⟨rfl, rfl⟩) w
    rw [hbt] at this
    exact this
  · have := refPcxPix24 (s := s) (b := b) (W := W) (H := H) (l := l) (x := x) (by omega) (by omega) (by omega) (by omega) w
    rw [← ofBatP, ← ofBatP, ← ofBatP, hbt, hbt, hbt] at this
    exact this
  · have hbs' : b.size = l := by omega
    have := refPcxPix1 (s := s) (b := b) (W := W) (H := H) (l := l) (x := x) (by omega) (by omega) rfl w
    rw [hbt] at this
    rw [Nat.zero_mul, Nat.zero_add]
    exact this
  · have := refPcxPix4 (s := s) (b := b) (W := W) (H := H) (l := l) (x := x) (by omega) (by omega) (by omega) (by omega) (by omega) hsm hs w
    have e : pnum (pbit b l x) 4 = R.getD (0 * l + x / 8) 0 / 2 ^ (7 - x % 8) % 2 + 2 * (R.getD (1 * l + x / 8) 0 / 2 ^ (7 - x % 8) % 2) + 4 * (R.getD (2 * l + x / 8) 0 / 2 ^ (7 - x % 8) % 2) + 8 * (R.getD (3 * l + x / 8) 0 / 2 ^ (7 - x % 8) % 2) := by
      unfold pnum pnum pnum pnum pnum pbit
      rw [hbt, hbt, hbt, hbt]
      simp only [Nat.reduceSub]
      omega
    rw [e] at this
    exact this
end Go.Proofs.YtccldalagbfmhaaGreat
