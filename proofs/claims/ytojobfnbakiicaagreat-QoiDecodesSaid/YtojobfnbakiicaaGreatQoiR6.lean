/- The document's Decode of a qoi file. -/
import Derived.Test.YtojobfnbakiicaaGreatQoiR2
import Derived.Test.YtojobfnbakiicaaGreatQoiR5
import Derived.Test.YtojobfnbakiicaaGreatQoiR4
import Derived.Deep.RegionHeld3
namespace Go.Proofs.YtojobfnbakiicaaGreat
open Go.RowKit
set_option linter.unusedVariables false
set_option linter.unusedSimpArgs false

/-- a step, told whole -/
theorem refStep {w : World} {s : ByteArray} {a gs cs : Nat} {last : Qc} {seen : List Qc} (ha : a < s.size) (hsm : s.size ≤ 1099511627776) (hS : QAt w gs 0 seen) (h64 : seen.length = 64) (hcs : 64 ≤ cs) : Calls Tryz.prog 66 #[.string s, .int .i64 (a : Int), last.v, .slice (some ⟨gs, 0, none⟩) 64 cs] w fun e w' => RStepPost s a last seen w w' e := by
  have hB := bat_lt s a
  by_cases h1 : bat s a = 254
  · exact refStep_rgb ha hsm hS h64 hcs h1
  by_cases h2 : bat s a = 255
  · exact refStep_rgba ha hsm hS h64 hcs h2
  by_cases h3 : bat s a < 64
  · exact refStep_index ha hsm hS h64 hcs h3
  by_cases h4 : bat s a < 128
  · exact refStep_diff ha hsm hS h64 hcs (by omega) h4
  by_cases h5 : bat s a < 192
  · exact refStep_luma ha hsm hS h64 hcs (by omega) h5
  · exact refStep_run ha hsm hS h64 hcs (by omega) (by omega)
theorem refQoiDec_bad {s : ByteArray} {k a : Nat} (hsm : s.size ≤ 1099511627776) (w : World) (h : (s.size < 14 ∧ k = 1 ∧ a = s.size) ∨ (14 ≤ s.size ∧ qoiHead s = some (k, a))) :
    Calls Tryz.prog 18 #[.string s] w fun e w' => e = .returned (.agg #[.int .i64 0, .int .i64 0, .slice none 0 0, .int .i64 (k : Int), .int .i64 (a : Int)]) ∧ Below w.heap.size w w' := by
  rcases h with ⟨hs, rfl, rfl⟩ | ⟨hs, hh⟩
  · have hsI : (s.size : Int) < 14 := by omega
    obtain ⟨F0, B0⟩ := ri_new w
    go_enter Tryz.func18, Tryz.ntmps18
    go_wp2_with (go_at_call 63; refine (refBadC 1 _ _).mono ?_; rintro e w5 ⟨rfl, b5⟩; have f5 : RI w5 w.heap.size 0 0 (.slice none 0 0) 0 0 := Blk.below F0 b5 (Blk.lt F0); obtain ⟨c0, c1, c2, c3, c4, z0, z1, z2, z3, z4, fl⟩ := RI.all f5)
    exact bodyPost_ret (v := .agg #[.int .i64 0, .int .i64 0, .slice none 0 0, .int .i64 1, .int .i64 (s.size : Int)]) (by simp [results, Tryz.results18, go_sem, c0, c1, c2, c3, c4]) rfl ⟨rfl, Below.st5 (below_next B0 b5) (Nat.le_refl _)⟩
  · have hsI : ¬ (s.size : Int) < 14 := by omega
    have HC := Lib.hid (fun w => refQoiCheckC (b := s) hs hsm w)
    have hk := (qoiHead_ne hh).1
    have hkI : ¬ (k : Int) = 0 := by simp only at hk; omega
    rw [hh] at HC
    simp only [riTold] at HC
    obtain ⟨F0, B0⟩ := ri_new w
    clear hh hs hk
    go_enter Tryz.func18, Tryz.ntmps18
    go_wp2_with (go_at_call 64; refine (HC.out _).mono ?_; rintro e w5 ⟨rfl, b5⟩; have f5 : RI w5 w.heap.size 0 0 (.slice none 0 0) 0 0 := Blk.below F0 b5 (Blk.lt F0); obtain ⟨c0, c1, c2, c3, c4, z0, z1, z2, z3, z4, fl⟩ := RI.all f5)
    have fl2 := Nat.ne_of_lt fl
    exact bodyPost_ret (v := .agg #[.int .i64 0, .int .i64 0, .slice none 0 0, .int .i64 (k : Int), .int .i64 (a : Int)]) (by simp [results, Tryz.results18, go_sem, c0, c1, c2, c3, c4, fl, fl2]) rfl ⟨rfl, by have B9 := Below.st5 (u0 := .int .i64 0) (u1 := .int .i64 0) (u2 := .slice none 0 0) (u3 := .int .i64 (k : Int)) (u4 := .int .i64 (a : Int)) (below_next B0 b5) (Nat.le_refl _); exact B9.alloc B9.size _⟩
set_option maxRecDepth 100000 in
theorem qseen_make (w : World) : (Instr.makeSlice 39 (.int .i64 64) (.int .i64 64)).run Tryz.prog w = .ok (.slice (some ⟨w.heap.size, 0, none⟩) 64 64) (w.alloc (.cells (cq qseen).toArray 67)) := by
  kernel_rfl
theorem qoiPix_end {s : ByteArray} {W H N z fu a : Nat} {last : Qc} {seen L : List Qc} (h : N ≤ L.length) : qoiPix s W H N z fu a last seen L = qoiTail s W H z L 8 a := by
  cases fu with
  | zero => unfold qoiPix; rw [if_pos h]
  | succ n => unfold qoiPix; rw [if_pos h]
theorem qoiTail_told {s : ByteArray} {W H z n a : Nat} {L : List Qc} : (qoiTail s W H z L (n + 1) a).told = if a < s.size then if bat s a = (7 - n) / 7 then (qoiTail s W H z L n (a + 1)).told else .bad 2 a else .bad 1 s.size := by
  conv => lhs; unfold qoiTail; rw [Dec.told]
  by_cases h1 : a < s.size
  · rw [if_pos h1, if_pos h1]
    by_cases h2 : bat s a = (7 - n) / 7
    · rw [if_pos h2, if_pos h2]
    · rw [if_neg h2, if_neg h2]; rfl
  · rw [if_neg h1, if_neg h1]; rfl
set_option maxRecDepth 100000 in
set_option maxHeartbeats 8000000 in
theorem refQoiDec_ok {s : ByteArray} {W H N z : Nat} {D : DRes} (hsm : s.size ≤ 1099511627776) (w : World) (hs : 14 ≤ s.size) (hh : qoiHead s = none) (hW : beN s 4 4 = W) (hH : beN s 8 4 = H) (hW1 : 1 ≤ W ∧ W ≤ 16384) (hH1 : 1 ≤ H ∧ H ≤ 16384) (hN : W * H = N) (hD : (qoiPix s W H N z N 14 q255 qseen []).told = D) :
    Calls Tryz.prog 18 #[.string s] w fun e w' => RefPost D w w' e := by
  have hsI : ¬ (s.size : Int) < 14 := by omega
  have hsI2 : (14 : Int) ≤ (s.size : Int) := by omega
  have hsI3 : (12 : Int) ≤ (s.size : Int) := by omega
  have hN1 : N ≤ 16384 * 16384 := by rw [← hN]; exact Nat.mul_le_mul hW1.2 hH1.2
  have hWH := prod_wrap hN (by omega)
  have HC := Lib.hid (fun w => refQoiCheckC (b := s) hs hsm w)
  have HB := Lib.hid (fun a (ha : a + 4 ≤ 14) w => refBe_at (s := s) (a := a) (n := 4) (by omega) (by omega) rfl w)
  rw [hh] at HC
  simp only [riTold] at HC
  have HN := Lib.hid hN
  have HD := Lib.hid hD
  have HWW := Lib.hid hW
  have HHH := Lib.hid hH
  have HN1 := Lib.hid hN1
  have HS := Lib.hid hs
  obtain ⟨F0, B0⟩ := ri_new w
  clear hh hN hD hW hH hN1 hs
  go_enter Tryz.func18, Tryz.ntmps18
  go_wp2_with (go_at_call 64; refine (HC.out _).mono ?_; rintro e w5 ⟨rfl, b5⟩)
  have A1 : RI (w5.alloc (.cells #[.int .i64 0, .int .i64 0, .slice none 0 0, .int .i64 0, .int .i64 0] 41)) w.heap.size 0 0 (.slice none 0 0) 0 0 := Blk.alloc (Blk.below F0 b5 (Blk.lt F0)) _
  have B1 : Below w.heap.size w (w5.alloc (.cells #[.int .i64 0, .int .i64 0, .slice none 0 0, .int .i64 0, .int .i64 0] 41)) := (below_next B0 b5).alloc (below_next B0 b5).size _
  generalize w5.alloc (.cells #[.int .i64 0, .int .i64 0, .slice none 0 0, .int .i64 0, .int .i64 0] 41) = w6 at A1 B1 ⊢
  have hz6 := B1.size
  have A2 := Lib.hid A1
  have B2 := Lib.hid B1
  clear F0 B0 b5 A1 B1
  go_cut [4] (fun v4 wc => v4 = .pointer (some ⟨w6.heap.size, 0, none⟩) ∧ RI wc w.heap.size 0 0 (.slice none 0 0) 0 0 ∧ RI wc w6.heap.size (W : Int) (H : Int) (.slice none 0 0) 0 0 ∧ Below w.heap.size w wc ∧ w6.heap.size < wc.heap.size)
  case first =>
    go_region_with (go_at_call 65; refine (HB.out _ (by decide) _).mono ?_; rintro e w2 ⟨rfl, rfl⟩)
    all_goals rw [HWW.out, HHH.out]
    all_goals go_wp2_with fail
    all_goals
      go_meet
      case rel => exact ⟨rfl, (Blk.alloc A2.out _).drew, (Blk.new _ _ _).drew, (B2.out.alloc B2.out.size _).drew, by simp⟩
  case rest =>
    obtain ⟨rfl, A3, X3, B3, hzc⟩ := hcut
    have hb4n : w.heap.size ≠ w6.heap.size := by
      have := Blk.lt A2.out
      omega
    generalize w6.heap.size = b4 at A3 X3 B3 hb4n hz6 hzc ⊢
    have hmk := fun w => qseen_make w
    go_wp2_with fail
    have I1 : RqI w ((wc.alloc (.cells (cq qseen).toArray 67)).alloc (.cells #[.int .u8 0, .int .u8 0, .int .u8 0, .int .u8 255] 67)) w.heap.size b4 (wc.heap.size + 1) wc.heap.size (wc.heap.size + 2) W H (.slice none 0 0) [] q255 qseen :=
      ⟨Blk.alloc (Blk.alloc A3 _) _, Blk.alloc (Blk.alloc X3 _) _, World.ownsRow_nil _ _ _ _, fun _ => rfl, Blk.new_at _ _ _ (by simp), Blk.alloc (Blk.new _ _ _) _, by simp [qseen], (B3.alloc B3.size _).alloc (by have := B3.size; simp; omega) _, by have := B3.size; omega, hz6, hb4n, by omega, by omega, by have := B3.size; omega, B3.size, by omega, by simp⟩
    generalize (wc.alloc (.cells (cq qseen).toArray 67)).alloc (.cells #[.int .u8 0, .int .u8 0, .int .u8 0, .int .u8 255] 67) = w7 at I1 ⊢
    generalize wc.heap.size + 2 = base at I1
    generalize wc.heap.size + 1 = lb at I1 ⊢
    generalize wc.heap.size = gs at I1 ⊢
    have HI1 := Lib.hid I1
    clear I1 A2 B2 A3 X3 B3 hzc hz6 hmk HC HB
    go_loopg [7] N (fun gh v7 wr => ∃ k a : Nat, gh + k = N ∧ v7 = .int .i64 (a : Int) ∧ a ≤ s.size ∧ Hid (∃ fu v last seen L, RqI w wr w.heap.size b4 lb gs base W H v L last seen ∧ L.length = k ∧ N ≤ fu + k ∧ (qoiPix s W H N z fu a last seen L).told = D))
    case atStart => exact ⟨0, 14, rfl, rfl, HS.out, Lib.hid ⟨N, _, _, _, _, HI1.out, rfl, by omega, HD.out⟩⟩
    case round =>
      obtain ⟨k, a, hk, rfl, has, hI⟩ := hrel
      clear HI1 HD
      obtain ⟨fu, v, last, seen, L, I, hL, hfu, hrun⟩ := hI.out
      obtain ⟨va, vc, hv⟩ := I.O.slice
      rw [hL] at hv
      subst hv
      have HI := Lib.hid I
      have HL := Lib.hid hL
      have HFU := Lib.hid hfu
      have HK := Lib.hid hk
      have hNb : N ≤ 268435456 := HN1.out
      have hasI : (a : Int) ≤ (s.size : Int) := by omega
      have hsz1 : (s.size : Int) ≤ 1099511627776 := by omega
      obtain ⟨c0, c1, c2, c3, c4, z0, z1, z2, z3, z4, fl⟩ := RI.all I.X
      clear hI I hL hfu hk
      by_cases hlt : k < N
      · have hltI : (k : Int) < (N : Int) := by omega
        obtain ⟨fu, rfl⟩ : ∃ n, fu = n + 1 := ⟨fu - 1, by have := HFU.out; omega⟩
        rw [qoiPix_succ (by have := HL.out; omega)] at hrun
        by_cases hal : a < s.size
        · have halI : ¬ (s.size : Int) ≤ (a : Int) := by omega
          obtain ⟨q0, q1, q2, q3, ql⟩ := QB.all HI.out.Lb
          have hsat : QAt wr gs 0 seen := fun i q hq => by
            rw [Nat.zero_add]
            exact cq_cells HI.out.S i q hq
          have HST := Lib.hid (refStep (w := wr) (s := s) (a := a) (gs := gs) (cs := 64) (last := last) (seen := seen) hal hsm hsat HI.out.sl (Nat.le_refl _))
          obtain ⟨nn, hnn⟩ : ∃ nn, qneed (bat s a) = nn := ⟨_, rfl⟩
          obtain ⟨c, m, hcm⟩ : ∃ c m, qstep s a last seen = (c, m) := ⟨_, _, rfl⟩
          have hm1 := qstep_pos s a last seen
          have hnn4 : nn ≤ 4 := by rw [← hnn]; unfold qneed; (repeat' split) <;> omega
          unfold RStepPost at HST
          unfold qput at hrun
          rw [hcm] at HST hm1 hrun
          rw [hnn] at HST hrun
          simp only at HST hm1 hrun
          unfold Qc.v at HST
          by_cases hfit : a + 1 + nn ≤ s.size
          · obtain ⟨a2, ha2⟩ : ∃ a2, a + 1 + nn = a2 := ⟨_, rfl⟩
            have hput : (if N - L.length < m then Dec.give z (.fin (.bad 2 a)) else works z a2 (qoiPix s W H N z fu a2 c (seen.set (qplace c) c) (L ++ List.replicate m c)) m).told = D := by
              rw [← ha2]
              unfold Dec.told at hrun
              rw [if_pos (show a + 1 ≤ s.size from hal)] at hrun
              by_cases h0 : nn = 0
              · rw [if_pos h0] at hrun; exact hrun
              · rw [if_neg h0] at hrun
                have h9 : (if a + 1 + nn ≤ s.size then (if N - L.length < m then Dec.give z (.fin (.bad 2 a)) else works z (a + 1 + nn) (qoiPix s W H N z fu (a + 1 + nn) c (seen.set (qplace c) c) (L ++ List.replicate m c)) m) else Dec.give z (.fin (.bad 1 s.size))).told = D := hrun
                rwa [if_pos hfit] at h9
            have hstep : Calls Tryz.prog 66 #[.string s, .int .i64 (a : Int), last.v, .slice (some ⟨gs, 0, none⟩) 64 64] wr fun e w' => Below wr.heap.size wr w' ∧ e = .returned (.tuple #[.agg #[.int .u8 (c.r.toNat : Int), .int .u8 (c.g.toNat : Int), .int .u8 (c.b.toNat : Int), .int .u8 (c.a.toNat : Int)], .int .i64 (m : Int), .int .i64 ((1 + nn : Nat) : Int), .bool true]) :=
              HST.out.mono fun e w' ⟨hb, ho⟩ => ⟨hb, ho.elim (fun h => h.2) (fun h => absurd hfit h.1)⟩
            unfold Qc.v at hstep
            have HST2 := Lib.hid hstep
            have HP := Lib.hid hput
            have hrI : ((1 + nn : Nat) : Int) ≤ 5 := by omega
            have hmI : (m : Int) ≤ 64 := by omega
            have HA2 := Lib.hid ha2
            have HFIT := Lib.hid hfit
            have ha2I : ∀ r : Nat, 1 + nn = r → (a : Int) + (r : Int) = (a2 : Int) := fun r hr => by omega
            obtain ⟨r1, hr1⟩ : ∃ r, 1 + nn = r := ⟨_, rfl⟩
            rw [hr1] at HST2 hrI
            have hR1 := Lib.hid hr1
            have ha2J := ha2I r1 hr1
            clear HST hstep hput hrun hsat hcm hnn hnn4 ha2 hfit hr1 ha2I
            by_cases hbad : N - k < m
            · have hbadI : (N : Int) - (k : Int) < (m : Int) := by omega
              go_wp2_with (first
                | (go_at_call 66; refine HST2.out.mono ?_; rintro e w8 ⟨b8, rfl⟩; have P8 := (HI.out.below b8).alloc (.cells #[.int .u8 (c.r.toNat : Int), .int .u8 (c.g.toNat : Int), .int .u8 (c.b.toNat : Int), .int .u8 (c.a.toNat : Int)] 67); clear c0 c1 c2 c3 c4 z0 z1 z2 z3 z4 fl; obtain ⟨c0, c1, c2, c3, c4, z0, z1, z2, z3, z4, fl⟩ := RI.all P8.X)
                | (go_at_call 63; refine (refBadC 2 _ _).mono ?_; rintro e w9 ⟨rfl, b9⟩; have P9 := P8.below b9; obtain ⟨c0, c1, c2, c3, c4, z0, z1, z2, z3, z4, fl⟩ := RI.all P9.A))
              exact bodyPost_ret (v := .agg #[.int .i64 0, .int .i64 0, .slice none 0 0, .int .i64 2, .int .i64 (a : Int)]) (by simp [results, Tryz.results18, go_sem, c0, c1, c2, c3, c4]) rfl ⟨Below.st5 P9.B (Nat.le_refl _), by rw [show D = .bad 2 a from HP.out.symm.trans (by rw [if_pos (show N - L.length < m by rw [HL.out]; exact hbad)]; rfl)]; rfl⟩
            · have hbadI : ¬ (N : Int) - (k : Int) < (m : Int) := by omega
              go_wp2_with (first
                | (go_at_call 66; refine HST2.out.mono ?_; rintro e w8 ⟨b8, rfl⟩; have P8 := (HI.out.below b8).alloc (.cells #[.int .u8 (c.r.toNat : Int), .int .u8 (c.g.toNat : Int), .int .u8 (c.b.toNat : Int), .int .u8 (c.a.toNat : Int)] 67); have Q8 : QB (w8.alloc (.cells #[.int .u8 (c.r.toNat : Int), .int .u8 (c.g.toNat : Int), .int .u8 (c.b.toNat : Int), .int .u8 (c.a.toNat : Int)] 67)) w8.heap.size c := Blk.new _ _ _; clear c0 c1 c2 c3 c4 z0 z1 z2 z3 z4 fl; obtain ⟨c0, c1, c2, c3, c4, z0, z1, z2, z3, z4, fl⟩ := RI.all P8.X))
              have nq8 : base ≤ w8.heap.size := (HI.out.below b8).hb
              have ne8 : ∀ j, (Value.slice va k vc).ownBlock = some j → j ≠ w8.heap.size := fun j hj => Nat.ne_of_lt ((HI.out.below b8).vge j hj).2
              generalize w8.heap.size = cb at Q8 nq8 ne8 ⊢
              have HI8 := Lib.hid (And.intro P8 (And.intro Q8 ne8))
              clear P8 Q8 ne8 b8 c0 c1 c2 c3 c4 z0 z1 z2 z3 z4 fl q0 q1 q2 q3 ql
              have hWH2 : wrap64 ((W : Int) * (H : Int)) = (N : Int) := hWH
              rw [hWH2]
              go_loopg [12] m (fun gh v12 wx => ∃ i : Nat, i + gh = m ∧ v12 = .int .i64 (i : Int) ∧ Hid (∃ v, RqI w wx w.heap.size b4 lb gs base W H v (L ++ List.replicate i c) last seen ∧ QB wx cb c ∧ ∀ j, v.ownBlock = some j → j ≠ cb))
              case atStart => exact ⟨0, by omega, rfl, Lib.hid ⟨_, by rw [List.replicate_zero, List.append_nil]; exact HI8.out.1, HI8.out.2.1, HI8.out.2.2⟩⟩
              case round =>
                obtain ⟨i, hi, rfl, hJ⟩ := hrel
                clear HI8
                obtain ⟨v, J, Q, ne⟩ := hJ.out
                obtain ⟨va, vc, hv⟩ := J.O.slice
                generalize (L ++ List.replicate i c).length = vn at hv
                subst hv
                have HJ := Lib.hid (And.intro J (And.intro Q ne))
                have HIM := Lib.hid hi
                obtain ⟨q0, q1, q2, q3, ql⟩ := QB.all Q
                have ncb4 : cb ≠ b4 := Blk.ne_ Q J.X (by decide)
                clear hJ hi
                by_cases hlt : i < m
                · have hltI : (i : Int) < (m : Int) := by omega
                  obtain ⟨c0, c1, c2, c3, c4, z0, z1, z2, z3, z4, fl⟩ := RI.all J.X
                  have HLN : Hid ((L ++ List.replicate i c).length + 1 < 1099511627776) := Lib.hid (by rw [List.length_append, List.length_replicate, HL.out]; omega)
                  clear J Q ne
                  go_wp2_with (at_builtin; refine wpList_append_colB rfl (.tmp 88) (.tmp 90) rfl base _ _ rfl (HJ.out.1.O.alloc _) HJ.out.1.nil_ wr.heap.size 1 c rfl (q_new wr c) HLN.out (HJ.out.1.alloc _).hb cb c (Blk.alloc HJ.out.2.1 _) HJ.out.2.2 ?_; intro v3 w3 own3 b3 hg3 Q3 ne3; obtain ⟨va3, vc3, hv3⟩ := own3.slice; generalize (L ++ List.replicate i c ++ [c]).length = vn3 at hv3; subst hv3; have P3 := (HJ.out.1.alloc (.cells #[.int .u8 (c.r.toNat : Int), .int .u8 (c.g.toNat : Int), .int .u8 (c.b.toNat : Int), .int .u8 (c.a.toNat : Int)] 67)).put hg3 own3 (by simp); have X3 : RI w3 b4 (W : Int) (H : Int) (.slice va vn vc) 0 0 := (hg3.block b4 (Blk.lt (Blk.alloc HJ.out.1.X _)) (fun e => HJ.out.1.O.neT HJ.out.1.X (by decide) b4 e.symm rfl)).trans (Blk.alloc HJ.out.1.X _); clear c0 c1 c2 c3 c4 z0 z1 z2 z3 z4 fl; obtain ⟨c0, c1, c2, c3, c4, z0, z1, z2, z3, z4, fl⟩ := RI.all X3)
                  go_roundg (m - (i + 1))
                  case measure => have := HIM.out; omega
                  case rel => exact ⟨i + 1, by have := HIM.out; omega, by go_num, Lib.hid ⟨_, by rw [List.replicate_succ', ← List.append_assoc]; exact P3, Blk.far Q3 (p := ⟨b4, 2, none⟩) ncb4 _, ne3⟩⟩
                · obtain rfl : i = m := by have := HIM.out; omega
                  have hltI : ¬ (i : Int) < (i : Int) := by omega
                  have ncl : cb ≠ lb := by have := J.nl; omega
                  have ncg : cb ≠ gs := by have := J.ng; omega
                  have J5 := J.setLast c
                  have Q5 : QB (stQ wr lb 0 c) cb c := Blk.stQ Q ncl
                  obtain ⟨l0, l1, l2, l3, ll⟩ := QB.all J.Lb
                  have y0 := Blk.frozen J.Lb 0
                  have y1 := Blk.frozen J.Lb 1
                  have y2 := Blk.frozen J.Lb 2
                  have y3 := Blk.frozen J.Lb 3
                  obtain ⟨w5, e5⟩ : ∃ w5, stQ wr lb 0 c = w5 := ⟨_, rfl⟩
                  rw [e5] at J5 Q5
                  unfold stQ at e5
                  simp only [Nat.zero_add] at e5
                  have HJ5 := Lib.hid (And.intro J5 Q5)
                  have E5 := Lib.hid e5
                  clear J Q ne J5 Q5 e5 HIM
                  go_wp2_with fail
                  rw [E5.out]
                  clear q0 q1 q2 q3 ql l0 l1 l2 l3 ll y0 y1 y2 y3 E5
                  obtain ⟨q0, q1, q2, q3, ql⟩ := QB.all HJ5.out.2
                  obtain ⟨p, hp⟩ : ∃ p, qplace c = p := ⟨_, rfl⟩
                  have hp64 : p < 64 := by rw [← hp]; exact qplace_lt c
                  have HPL := Lib.hid (fun w => refPlace26 hp w)
                  have HPE := Lib.hid hp
                  obtain ⟨sp, hsp⟩ : ∃ q, seen[p]? = some q := ⟨seen[p]'(by have := HJ5.out.1.sl; omega), List.getElem?_eq_getElem _⟩
                  have g0 : (0 : Int) ≤ (p : Int) := Int.natCast_nonneg _
                  have g1 : (p : Int) < 64 := by omega
                  have HSP := Lib.hid hsp
                  clear hp hsp
                  refine wp_region_held_drew (S := (fun w' => w'.cell? ⟨cb, 0, none⟩ = some (.int .u8 (c.r.toNat : Int)) ∧ w'.cell? ⟨cb, 1, none⟩ = some (.int .u8 (c.g.toNat : Int)) ∧ w'.cell? ⟨cb, 2, none⟩ = some (.int .u8 (c.b.toNat : Int)) ∧ w'.cell? ⟨cb, 3, none⟩ = some (.int .u8 (c.a.toNat : Int)))) (by kernel_rfl) ⟨q0, q1, q2, q3⟩ (fun hHeld => ?_)
                  refine wpAnyH_take (i := 0) (v := ?_) rfl (by kernel_rfl) (by kernel_rfl) (by kernel_rfl) (fun _ _ _ h => h) (Or.inl ⟨by kernel_rfl, ?_⟩) (by assumption) ?_
                  rotate_left
                  · intro w hSw; (try dsimp only at hSw); go_simp; (try with_reducible rfl)
                  (try simp only [Act.put, List.setIfInBounds_toArray, List.set_cons_zero, List.set_cons_succ])
                  refine wpAnyH_take (i := 1) (v := ?_) rfl (by kernel_rfl) (by kernel_rfl) (by kernel_rfl) (fun _ _ _ h => h) (Or.inl ⟨by kernel_rfl, ?_⟩) (by assumption) ?_
                  rotate_left
                  · intro w hSw; (try dsimp only at hSw); go_simp; (try with_reducible rfl)
                  (try simp only [Act.put, List.setIfInBounds_toArray, List.set_cons_zero, List.set_cons_succ])
                  refine wpAnyH_take (i := 3) (v := ?_) rfl (by kernel_rfl) (by kernel_rfl) (by kernel_rfl) (fun _ _ _ h => h) (Or.inl ⟨by kernel_rfl, ?_⟩) (by assumption) ?_
                  rotate_left
                  · intro w hSw; (try dsimp only at hSw); go_simp; (try with_reducible rfl)
                  (try simp only [Act.put, List.setIfInBounds_toArray, List.set_cons_zero, List.set_cons_succ])
                  refine wpAnyH_ready (rs := [2]) (by kernel_rfl) (by simp) ?_
                  refine AllReadyH.cons rfl (fun K hK => ?_) AllReadyH.nil
                  go_simp
                  refine (HPL.out _).mono ?_
                  rintro e w11 ⟨rfl, b11⟩
                  have J11 := HJ5.out.1.drew.below b11
                  have Q11 : QB w11 cb c := Blk.below (Blk.drew HJ5.out.2) b11 (Blk.lt HJ5.out.2)
                  obtain ⟨k0, k1, k2, k3, kl⟩ := QB.all Q11
                  refine hK.out _ _ ⟨k0, k1, k2, k3⟩ (fun hHeld' => ?_)
                  clear hK K hHeld
                  have hHeld := hHeld'
                  clear hHeld'
                  (try simp only [Act.put, List.setIfInBounds_toArray, List.set_cons_zero, List.set_cons_succ])
                  refine wpAnyH_take (i := 4) (v := ?_) rfl (by kernel_rfl) (by kernel_rfl) (by kernel_rfl) (fun _ _ _ h => h) (Or.inl ⟨by kernel_rfl, ?_⟩) (by assumption) ?_
                  rotate_left
                  · intro w hSw; (try dsimp only at hSw); go_simp; (try with_reducible rfl)
                  (try simp only [Act.put, List.setIfInBounds_toArray, List.set_cons_zero, List.set_cons_succ])
                  obtain ⟨s0, s1, s2, s3⟩ := cq_cells J11.S p sp HSP.out
                  have x0 := Blk.frozen J11.S (p * 4)
                  have x1 := Blk.frozen J11.S (p * 4 + 1)
                  have x2 := Blk.frozen J11.S (p * 4 + 2)
                  have x3 := Blk.frozen J11.S (p * 4 + 3)
                  have sl := Blk.lt J11.S
                  refine wpAnyH_ready (rs := [5]) (by kernel_rfl) (by simp) ?_
                  refine AllReadyH.cons rfl (fun K hK => ?_) AllReadyH.nil
                  go_simp
                  have J12 := J11.setSeen c p
                  have Q12 : QB (stQ w11 gs (p * 4) c) cb c := Blk.stQ Q11 ncg
                  obtain ⟨m0, m1, m2, m3, ml⟩ := QB.all Q12
                  refine hK.out _ _ ⟨m0, m1, m2, m3⟩ (fun hHeld' => ?_)
                  clear hK K hHeld
                  have hHeld := hHeld'
                  clear hHeld'
                  (try simp only [Act.put, List.setIfInBounds_toArray, List.set_cons_zero, List.set_cons_succ])
                  refine wpAnyH_done (by kernel_rfl) ?_ _
                  go_wp2_with fail
                  go_roundg (N - (k + i))
                  case measure => have := HK.out; omega
                  case rel =>
                    refine ⟨k + i, a2, by have := HK.out; omega, rfl, by have := HFIT.out; have := HA2.out; omega, Lib.hid ⟨fu, _, c, seen.set (qplace c) c, L ++ List.replicate i c, by rw [HPE.out]; exact J12, by rw [List.length_append, List.length_replicate, HL.out], by have := HFU.out; omega, ?_⟩⟩
                    have h9 := HP.out
                    rw [if_neg (show ¬ N - L.length < i by rw [HL.out]; exact hbad), works_told] at h9
                    exact h9
          · have hno : D = .bad 1 s.size := by
              rw [← hrun]
              unfold Dec.told
              rw [if_pos (show a + 1 ≤ s.size from hal), if_neg (by omega)]
              unfold Dec.told
              rw [if_neg hfit]
              rfl
            have hstep : Calls Tryz.prog 66 #[.string s, .int .i64 (a : Int), last.v, .slice (some ⟨gs, 0, none⟩) 64 64] wr fun e w' => Below wr.heap.size wr w' ∧ e = .returned (.tuple #[qnone.v, .int .i64 0, .int .i64 0, .bool false]) :=
              HST.out.mono fun e w' ⟨hb, ho⟩ => ⟨hb, ho.elim (fun h => absurd h.1 hfit) (fun h => h.2)⟩
            unfold Qc.v at hstep
            have HST2 := Lib.hid hstep
            have HNO := Lib.hid hno
            clear HST hstep hrun hsat hcm hnn hnn4 hfit hno hm1
            go_wp2_with (first
              | (go_at_call 66; refine HST2.out.mono ?_; rintro e w8 ⟨b8, rfl⟩; have P8 := (HI.out.below b8).alloc (.cells #[.int .u8 0, .int .u8 0, .int .u8 0, .int .u8 0] 67))
              | (go_at_call 63; refine (refBadC 1 _ _).mono ?_; rintro e w9 ⟨rfl, b9⟩; have P9 := P8.below b9; obtain ⟨c0, c1, c2, c3, c4, z0, z1, z2, z3, z4, fl⟩ := RI.all P9.A))
            exact bodyPost_ret (v := .agg #[.int .i64 0, .int .i64 0, .slice none 0 0, .int .i64 1, .int .i64 (s.size : Int)]) (by simp [results, Tryz.results18, go_sem, c0, c1, c2, c3, c4]) rfl ⟨Below.st5 P9.B (Nat.le_refl _), by rw [show D = .bad 1 s.size from HNO.out]; rfl⟩
        · have halI : (s.size : Int) ≤ (a : Int) := by omega
          have hno : D = .bad 1 s.size := by
            rw [← hrun]
            unfold Dec.told
            rw [if_neg (show ¬ a + 1 ≤ s.size from hal)]
            rfl
          have HNO := Lib.hid hno
          clear hrun hno
          go_wp2_with (first
            | (go_at_call 63; refine (refBadC 1 _ _).mono ?_; rintro e w9 ⟨rfl, b9⟩; have P9 := HI.out.below b9; obtain ⟨c0, c1, c2, c3, c4, z0, z1, z2, z3, z4, fl⟩ := RI.all P9.A))
          exact bodyPost_ret (v := .agg #[.int .i64 0, .int .i64 0, .slice none 0 0, .int .i64 1, .int .i64 (s.size : Int)]) (by simp [results, Tryz.results18, go_sem, c0, c1, c2, c3, c4]) rfl ⟨Below.st5 P9.B (Nat.le_refl _), by rw [show D = .bad 1 s.size from HNO.out]; rfl⟩
      · obtain rfl : k = N := by have := HK.out; omega
        have hltI : ¬ (k : Int) < (k : Int) := by omega
        rw [qoiPix_end (by rw [HL.out]; omega)] at hrun
        have HRUN := Lib.hid hrun
        have HI2 := HI
        clear hrun HFU HK HI
        go_wp2_with fail
        go_loopg [13] 8 (fun gh v13 wx => ∃ (i gk : Nat) (I : Int), gk = gh ∧ i + gk = 8 ∧ v13 = .int .i64 I ∧ I = (i : Int) ∧ wx = wr ∧ Hid ((qoiTail s W H z L gk (a + i)).told = D))
        case atStart => exact ⟨0, 8, 0, rfl, rfl, rfl, rfl, rfl, HRUN⟩
        case round =>
          obtain ⟨i, gk, I, rfl, hi, rfl, hI, rfl, hT⟩ := hrel
          clear HRUN
          obtain ⟨b, hb⟩ : ∃ b, a + i = b := ⟨_, rfl⟩
          by_cases hi8 : i < 8
          · obtain ⟨n, rfl⟩ : ∃ n, gk = n + 1 := ⟨gk - 1, by omega⟩
            have hq := hT.out
            rw [qoiTail_told, hb] at hq
            have HIN := Lib.hid hi
            have HB := Lib.hid hb
            by_cases hbs : b < s.size
            · rw [if_pos hbs] at hq
              have hbsI : ¬ (s.size : Int) ≤ (b : Int) := by omega
              have hbsJ : (b : Int) < (s.size : Int) := by omega
              have hbJ : 0 ≤ (b : Int) := by omega
              have hbT : (b : Int).toNat = b := by omega
              obtain ⟨X, hX⟩ : ∃ X, bat s b = X := ⟨_, rfl⟩
              have hXs : s[b].toNat = X := by rw [← hX, bat_eq hbs]
              rw [hX] at hq
              by_cases hi7 : i < 7
              · have hd : (7 - n) / 7 = 0 := by omega
                rw [hd] at hq
                have hbI : I + (a : Int) = (b : Int) := by omega
                have hbI2 : (a : Int) + I = (b : Int) := by omega
                have h0 : 0 ≤ I := by omega
                have h7 : I < 7 := by omega
                have h8 : I < 8 := by omega
                have hn7 : ¬ I = 7 := by omega
                have HIE := Lib.hid hI
                by_cases hx : X = 0
                · rw [if_pos hx] at hq
                  have hxI : (X : Int) = 0 := by omega
                  have HQ := Lib.hid hq
                  clear hq hT hi hb hX hx hI hi8 hi7 hd
                  go_wp2_with fail
                  go_roundg n
                  case measure => omega
                  case rel => exact ⟨i + 1, n, _, rfl, by have := HIN.out; omega, rfl, by have := HIE.out; omega, rfl, Lib.hid (by rw [← Nat.add_assoc, HB.out]; exact HQ.out)⟩
                · rw [if_neg hx] at hq
                  have hxI : ¬ (X : Int) = 0 := by omega
                  have HQ := Lib.hid hq
                  clear hq hT hi hb hX hx hI hi8 hi7 hd
                  go_wp2_with (go_at_call 63; refine (refBadC 2 _ _).mono ?_; rintro e w9 ⟨rfl, b9⟩; have P9 := HI2.out.below b9; obtain ⟨c0, c1, c2, c3, c4, z0, z1, z2, z3, z4, fl⟩ := RI.all P9.A)
                  exact bodyPost_ret (v := .agg #[.int .i64 0, .int .i64 0, .slice none 0 0, .int .i64 2, .int .i64 (b : Int)]) (by simp [results, Tryz.results18, go_sem, c0, c1, c2, c3, c4]) rfl ⟨Below.st5 P9.B (Nat.le_refl _), by rw [show D = .bad 2 b from HQ.out.symm]; rfl⟩
              · obtain rfl : i = 7 := by omega
                obtain rfl : I = 7 := by omega
                have hd : (7 - n) / 7 = 1 := by omega
                rw [hd] at hq
                have hbI : 7 + (a : Int) = (b : Int) := by omega
                have hbI2 : (a : Int) + 7 = (b : Int) := by omega
                by_cases hx : X = 1
                · rw [if_pos hx] at hq
                  have hxI : (X : Int) = 1 := by omega
                  have HQ := Lib.hid hq
                  clear hq hT hi hb hX hx hI hi8 hi7 hd
                  go_wp2_with fail
                  go_roundg n
                  case measure => omega
                  case rel => exact ⟨8, n, _, rfl, by have := HIN.out; omega, rfl, rfl, rfl, Lib.hid (by rw [show a + 8 = a + 7 + 1 from rfl, HB.out]; exact HQ.out)⟩
                · rw [if_neg hx] at hq
                  have hxI : ¬ (X : Int) = 1 := by omega
                  have HQ := Lib.hid hq
                  clear hq hT hi hb hX hx hI hi8 hi7 hd
                  go_wp2_with (go_at_call 63; refine (refBadC 2 _ _).mono ?_; rintro e w9 ⟨rfl, b9⟩; have P9 := HI2.out.below b9; obtain ⟨c0, c1, c2, c3, c4, z0, z1, z2, z3, z4, fl⟩ := RI.all P9.A)
                  exact bodyPost_ret (v := .agg #[.int .i64 0, .int .i64 0, .slice none 0 0, .int .i64 2, .int .i64 (b : Int)]) (by simp [results, Tryz.results18, go_sem, c0, c1, c2, c3, c4]) rfl ⟨Below.st5 P9.B (Nat.le_refl _), by rw [show D = .bad 2 b from HQ.out.symm]; rfl⟩
            · rw [if_neg hbs] at hq
              have hbsI : (s.size : Int) ≤ (b : Int) := by omega
              have hbI : I + (a : Int) = (b : Int) := by omega
              have hbI2 : (a : Int) + I = (b : Int) := by omega
              have h8 : I < 8 := by omega
              have h0 : 0 ≤ I := by omega
              have HQ := Lib.hid hq
              clear hq hT hi hb hI hi8
              go_wp2_with (go_at_call 63; refine (refBadC 1 _ _).mono ?_; rintro e w9 ⟨rfl, b9⟩; have P9 := HI2.out.below b9; obtain ⟨c0, c1, c2, c3, c4, z0, z1, z2, z3, z4, fl⟩ := RI.all P9.A)
              exact bodyPost_ret (v := .agg #[.int .i64 0, .int .i64 0, .slice none 0 0, .int .i64 1, .int .i64 (s.size : Int)]) (by simp [results, Tryz.results18, go_sem, c0, c1, c2, c3, c4]) rfl ⟨Below.st5 P9.B (Nat.le_refl _), by rw [show D = .bad 1 s.size from HQ.out.symm]; rfl⟩
          · obtain rfl : i = 8 := by omega
            obtain rfl : gk = 0 := by omega
            obtain rfl : I = 8 := hI
            have hq : DRes.img W H (flat L) = D := hT.out
            have HQ := Lib.hid hq
            obtain ⟨y0, y1, y2, y3, y4, yz0, yz1, yz2, yz3, yz4, yl⟩ := RI.all HI2.out.A
            clear hq hT hi hb
            go_wp2_with fail
            exact bodyPost_ret (v := .agg #[.int .i64 (W : Int), .int .i64 (H : Int), (.slice va k vc), .int .i64 0, .int .i64 0]) (by simp [results, Tryz.results18, go_sem, y0, y1, y2, y3, y4]) rfl (by have hD2 := HQ.out; subst hD2; exact ⟨Below.st5 HI2.out.B (Nat.le_refl _), _, L, rfl, OwnsQ.st5RI (World.ownsRow.mono HI2.out.O HI2.out.nb) HI2.out.A, rfl, by rw [HL.out, HN.out]⟩)
end Go.Proofs.YtojobfnbakiicaaGreat
