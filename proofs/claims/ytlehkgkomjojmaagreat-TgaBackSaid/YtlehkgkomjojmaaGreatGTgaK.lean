/- tgarle: a packet; all pixels. -/
import Derived.Test.YtlehkgkomjojmaaGreatGTgaJ
namespace Go.Proofs.YtlehkgkomjojmaaGreat
open Go.RowKit
set_option linter.unusedVariables false
set_option linter.unusedSimpArgs false

/-- a packet -/
def tgaPacket (s : ByteArray) (h : TgaHd) (M : List Qc) (z N a : Nat) (L : List Qc) (k : Nat → List Qc → Dec) : Dec :=
  .work 1 z a (if a + 1 ≤ s.size then
      (if N - L.length < bat s a % 128 + 1 then .give z (.fin (.bad 2 a))
       else if 128 ≤ bat s a then tgaNext s h M z (bat s a % 128 + 1) (a + 1) L k
       else tgaRaw s h M z (bat s a % 128 + 1) (a + 1) L k)
    else .give z (.fin (.bad 1 s.size)))
theorem tgaPk_step {s : ByteArray} {h : TgaHd} {M : List Qc} {z N f a : Nat} {L : List Qc} {k : List Qc → Dec} (hl : L.length < N) : tgaPk s h M z N (f + 1) a L k = tgaPacket s h M z N a L fun a L => tgaPk s h M z N f a L k := by
  show (if N ≤ L.length then _ else _) = _
  rw [if_neg (by omega)]
  rfl
theorem tga_and127 {b : Nat} (h : b < 256) : bits .and .i64 (b : Int) 127 = ((b % 128 : Nat) : Int) := by
  rw [show (127 : Int) = ((127 : Nat) : Int) from rfl, and64 _ _ (by omega) (by omega), show (127 : Nat) = 2 ^ 7 - 1 from rfl, Nat.and_two_pow_sub_one_eq_mod]
theorem tga_and128 {b : Nat} (h : b < 256) : (bits .and .i64 (b : Int) 128 != 0) = decide (128 ≤ b) := by
  rw [show (128 : Int) = ((128 : Nat) : Int) from rfl, and64 _ _ (by omega) (by omega)]
  have h1 := tga_and80 ⟨b, h⟩
  simp only at h1
  rw [Bool.eq_iff_iff, bne_iff_ne, decide_eq_true_iff]
  omega
set_option maxRecDepth 100000 in
set_option maxHeartbeats 4000000 in
theorem tgaPacketC {w : World} {p g x r b d : Nat} {s : ByteArray} {h : TgaHd} {lv : Value} {M : List Qc} {a N : Nat} {L : List Qc} {y : Led} (hh : h.Ok) (hsm : s.size ≤ 1099511627776) (hN : h.W * h.H = N) (I0 : TX w w p g x r b d s h lv M a L.length L y) (hr : y.reason = 0) (hn : L.length < N) :
    Calls Tryz.prog 177 #[.pointer (some ⟨x, 0, none⟩)] w fun e w' => TNextPost w w' p g x r b d s h lv M (fun l => L.length < l) (fun z k => tgaPacket s h M z N a L k) L y e := by
  have I1 := I0.alloc (.cells #[.int .i64 0, .int .i64 0, .int .i64 0] 34)
  have F1 : FB (w.alloc (.cells #[.int .i64 0, .int .i64 0, .int .i64 0] 34)) w.heap.size 0 0 0 := Blk.new _ _ _
  have hP : N ≤ 16384 * 16384 := by rw [← hN]; exact Nat.mul_le_mul hh.w2 hh.h2
  have HH := Lib.hid (And.intro hh (And.intro hsm (And.intro hr (And.intro hN hn))))
  have HB0 := Lib.hid (bat_lt s a)
  clear I0 hh hsm hr hn hN
  go_enter Tryz.func177, Tryz.ntmps177
  go_upto_region 1 with fail
  generalize (w.alloc (.cells #[.int .i64 0, .int .i64 0, .int .i64 0] 34)) = w1 at I1 F1 ⊢
  obtain ⟨c0, c1, c2, c3, c4, c5, c6, c7, c8, c9, c10, c11, c12, c13, c14, c15, c15z, cl⟩ := I1.X.all
  have HU := Lib.hid (srcU8_ways I1.S (srcOkT HH.out.2.1 I1.ha) I1.G I1.ok HH.out.2.2.1)
  have HI := Lib.hid (And.intro I1 F1)
  have nf : w.heap.size ∉ [p, g] := by simp only [List.mem_cons, List.not_mem_nil, or_false, not_or]; exact ⟨Blk.ne_ F1 I1.S (by decide), Blk.ne_ F1 I1.G (by decide)⟩
  go_upto_region 3 with (first
    | (go_at_call 141; refine HU.out.mono ?_; rintro e w2 ⟨y2, l2, ok2, b2, t2, hor⟩; have F2 : FB w2 w.heap.size 0 0 0 := FB.turn HI.out.2 t2 nf; clear c0 c1 c2 c3 c4 c5 c6 c7 c8 c9 c10 c11 c12 c13 c14 c15 c15z cl; rcases hor with ⟨kk, aa, rfl, s2, nr, nrun⟩ | ⟨rfl, s2, yr2, hle, hw2⟩)
    | (go_at_call 81; refine (srcAt_at HI.out.1.S).mono ?_; rintro e w9 ⟨rfl, rfl⟩))
  · have I2 := HI.out.1.read t2 s2 l2 ok2 HI.out.1.ha
    obtain ⟨c0, c1, c2, c3, c4, c5, c6, c7, c8, c9, c10, c11, c12, c13, c14, c15, c15z, cl⟩ := I2.X.all
    have h00 : bits .and .i64 0 127 = 0 := by rfl
    go_wp2_with (go_at_call 43; refine (srcFault_is 2 s2 l2 nr).mono ?_; rintro e w4 ⟨rfl, b4⟩; have I4 := I2.below b4; have F4 := FB.below F2 b4; obtain ⟨f0, f1, f2', z0, z1, z2, fl⟩ := FB.all F4)
    exact bodyPost_ret (v := .agg #[.int .i64 (kk : Int), .int .i64 2, .int .i64 (aa : Int)]) (by simp [results, Tryz.results177, go_sem, f0, f1, f2']) rfl ⟨y2, L, a, kk, 2, aa, rfl, I4.st3 F4 (Nat.le_refl _), b2, .inl ⟨nr.ne, rfl, fun z k => nrun z _⟩⟩
  · have I2 := HI.out.1.read t2 s2 l2 ok2 hle
    obtain ⟨c0, c1, c2, c3, c4, c5, c6, c7, c8, c9, c10, c11, c12, c13, c14, c15, c15z, cl⟩ := I2.X.all
    obtain ⟨bv, hbv⟩ : ∃ bv, bat s a = bv := ⟨_, rfl⟩
    obtain ⟨n, hn⟩ : ∃ n, bv % 128 + 1 = n := ⟨_, rfl⟩
    obtain ⟨lf, hlf⟩ : ∃ lf, N - L.length = lf := ⟨_, rfl⟩
    have hbB : bv < 256 := by rw [← hbv]; exact HB0.out
    obtain ⟨m, hm⟩ : ∃ m, bv % 128 = m := ⟨_, rfl⟩
    have h127 : bits .and .i64 (bv : Int) 127 = (m : Int) := by rw [← hm]; exact tga_and127 hbB
    have h128 := tga_and128 hbB
    have hmn : (m : Int) + 1 = (n : Int) := by omega
    have hmB : (m : Int) ≤ 127 := by omega
    have hnB : (n : Int) ≤ 128 := by omega
    have HLF := Lib.hid (tgaLeftC (n := lf) I2.X HH.out.2.2.2.1 (by have := HH.out.2.2.2.2; omega) (by omega))
    have HNN := Lib.hid (And.intro hbv (And.intro hn hlf))
    have HI2 := Lib.hid (And.intro I2 F2)
    have hn1 : 1 ≤ n := by omega
    rw [hbv]
    have HRUN : Hid (∀ z k, (tgaPacket s h M z N a L k).run y = (if lf < n then Dec.give z (.fin (.bad 2 a)) else if 128 ≤ bv then tgaNext s h M z n (a + 1) L k else tgaRaw s h M z n (a + 1) L k).run y2) := Lib.hid (fun z k => by unfold tgaPacket; rw [run_work_yes hw2, if_pos hle, hbv, hn, hlf])
    clear hbv hn hlf hm F2 s2 l2 hw2
    go_upto_region 6 with fail
    by_cases hgt : lf < n
    · have hgI : (lf : Int) < (n : Int) := by omega
      obtain ⟨f0, f1, f2', z0, z1, z2, fl⟩ := FB.all HI2.out.2
      have HGT := Lib.hid hgt
      clear hgt I2
      go_wp2_with (go_at_call 180; refine HLF.out.mono ?_; rintro e w3 ⟨rfl, rfl⟩)
      exact bodyPost_ret (v := .agg #[.int .i64 2, .int .i64 2, .int .i64 (a : Int)]) (by simp [results, Tryz.results177, go_sem, f0, f1, f2']) rfl ⟨y2, L, a + 1, 2, 2, a, rfl, (HI2.out.1.st3 HI2.out.2 (Nat.le_refl _)).drew, b2, .inl ⟨by decide, rfl, fun z k => by rw [HRUN.out, if_pos HGT.out]; rfl⟩⟩
    · have hgI : ¬ (lf : Int) < (n : Int) := by omega
      have hfit : L.length + n ≤ h.W * h.H := by have := HNN.out.2.2; have := HH.out.2.2.2.1; have := HH.out.2.2.2.2; omega
      have HFIT := Lib.hid hfit
      have HGT := Lib.hid hgt
      by_cases h8 : 128 ≤ bv
      · rw [decide_eq_true h8] at h128
        have H8 := Lib.hid h8
        have HNX := Lib.hid (tgaNextC (n := n) HH.out.1 HH.out.2.1 (HI2.out.1.drew).from_ yr2 hn1 hfit)
        clear hgt hfit h8 I2
        go_wp2_with (first
          | (go_at_call 179; refine HNX.out.mono ?_; rintro e w5 ⟨y5, L5, a5, kk, ff, aa, rfl, I5, b5, hor⟩; have J5 := I5.to_ HI2.out.1.drew.T; have F5 : FB w5 w.heap.size 0 0 0 := FB.turn (Blk.drew HI2.out.2) I5.T (by simp only [List.mem_cons, List.not_mem_nil, or_false, not_or]; exact ⟨Blk.ne_ HI2.out.2 HI2.out.1.S (by decide), Blk.ne_ HI2.out.2 HI2.out.1.G (by decide), Blk.ne_ HI2.out.2 HI2.out.1.X (by decide), Blk.ne_ HI2.out.2 HI2.out.1.D.row (by decide)⟩); obtain ⟨f0, f1, f2', z0, z1, z2, fl⟩ := FB.all F5)
          | (go_at_call 180; refine HLF.out.mono ?_; rintro e w3 ⟨rfl, rfl⟩))
        refine bodyPost_ret (v := .agg #[.int .i64 (kk : Int), .int .i64 (ff : Int), .int .i64 (aa : Int)]) (by simp [results, Tryz.results177, go_sem, f0, f1, f2']) rfl ⟨y5, L5, a5, kk, ff, aa, rfl, J5.st3 F5 (Nat.le_refl _), b5.trans b2, ?_⟩
        rcases hor with ⟨h1, h2, hrun⟩ | ⟨h1, h2, h3, h4, h5, hrun⟩
        · exact .inl ⟨h1, h2, fun z k => by rw [HRUN.out, if_neg HGT.out, if_pos H8.out]; exact hrun z k⟩
        · exact .inr ⟨h1, h2, h3, by show L.length < L5.length; omega, h5, fun z k => by rw [HRUN.out, if_neg HGT.out, if_pos H8.out]; exact hrun z k⟩
      · rw [decide_eq_false h8] at h128
        have H8 := Lib.hid h8
        have HST : Hid (TX w w2.drew p g x r b d s h lv M (a + 1) L.length L y2 ∧ FB w2.drew w.heap.size 0 0 0 ∧ y2.reason = 0 ∧ y2.bytes = y.bytes) := Lib.hid ⟨HI2.out.1.drew, Blk.drew HI2.out.2, yr2, b2⟩
        clear hgt hfit h8 I2
        go_upto_region 10 with (go_at_call 180; refine HLF.out.mono ?_; rintro e w3 ⟨rfl, rfl⟩)
        generalize w2.drew = w3 at HST ⊢
        clear c0 c1 c2 c3 c4 c5 c6 c7 c8 c9 c10 c11 c12 c13 c14 c15 c15z cl
        clear yr2 b2 t2 hgI h128
        go_cut [46, 47] from 8 to 47 (fun c46 c47 wx => c46 = .int .i64 (n : Int) ∧ c47 = .int .i64 0 ∧ wx = w3)
        case first =>
          go_wp2_with fail
          go_meet
          case rel => exact ⟨rfl, rfl, rfl⟩
        case rest =>
          obtain ⟨rfl, rfl, rfl⟩ := hcut
          go_wp2_with fail
          go_loopg [7, 47] n (fun gh v7 v47 wr => ∃ (i gk a' : Nat) (y' : Led) (L' : List Qc), gk = gh ∧ i + gk = n ∧ v47 = .int .i64 (i : Int) ∧ Hid (L'.length = L.length + i) ∧ Hid (TX w wr p g x r b d s h lv M a' L'.length L' y' ∧ FB wr w.heap.size 0 0 0 ∧ y'.reason = 0 ∧ y'.bytes = y.bytes ∧ ∀ z k, (tgaRaw s h M z n (a + 1) L k).run y2 = (tgaRaw s h M z gk a' L' k).run y'))
          case atStart => exact ⟨0, n, a + 1, y2, L, rfl, by omega, rfl, Lib.hid rfl, Lib.hid ⟨HST.out.1, HST.out.2.1, HST.out.2.2.1, HST.out.2.2.2, fun _ _ => rfl⟩⟩
          case round =>
            obtain ⟨i, gk, a', y', L', rfl, hi, rfl, HL, HR⟩ := hrel
            clear HST
            by_cases hin : i < n
            · have hinI : (i : Int) < (n : Int) := by omega
              have HNX := Lib.hid (tgaNextC (n := 1) HH.out.1 HH.out.2.1 HR.out.1.from_ HR.out.2.2.1 (Nat.le_refl _) (by have := HL.out; have := HFIT.out; omega))
              have HGK := Lib.hid hi
              clear hi
              go_upto_region 13 with (go_at_call 179; refine HNX.out.mono ?_; rintro e w5 ⟨y5, L5, a5, kk, ff, aa, rfl, I5, b5, hor⟩)
              have J5 := (I5.to_ HR.out.1.T).alloc (.cells #[.int .i64 (kk : Int), .int .i64 (ff : Int), .int .i64 (aa : Int)] 34)
              have F4 : FB w5 w.heap.size 0 0 0 := FB.turn HR.out.2.1 I5.T (by simp only [List.mem_cons, List.not_mem_nil, or_false, not_or]; exact ⟨Blk.ne_ HR.out.2.1 HR.out.1.S (by decide), Blk.ne_ HR.out.2.1 HR.out.1.G (by decide), Blk.ne_ HR.out.2.1 HR.out.1.X (by decide), Blk.ne_ HR.out.2.1 HR.out.1.D.row (by decide)⟩)
              have F5 : FB (w5.alloc (.cells #[.int .i64 (kk : Int), .int .i64 (ff : Int), .int .i64 (aa : Int)] 34)) w.heap.size 0 0 0 := Blk.alloc F4 _
              have E5 : FB (w5.alloc (.cells #[.int .i64 (kk : Int), .int .i64 (ff : Int), .int .i64 (aa : Int)] 34)) w5.heap.size (kk : Int) (ff : Int) (aa : Int) := Blk.new _ _ _
              have hne : w.heap.size ≠ w5.heap.size := Nat.ne_of_lt (Blk.lt F4)
              generalize w5.alloc (.cells #[.int .i64 (kk : Int), .int .i64 (ff : Int), .int .i64 (aa : Int)] 34) = w6 at J5 F5 E5 ⊢
              generalize w5.heap.size = q7 at E5 hne ⊢
              have hne' := hne.symm
              obtain ⟨f0, f1, f2', z0, z1, z2, fl⟩ := FB.all F5
              obtain ⟨e0, e1, e2, ez0, ez1, ez2, el⟩ := FB.all E5
              have HJ := Lib.hid (And.intro J5 F5)
              have HB5 := Lib.hid b5
              clear J5 F5 E5 F4 I5 b5
              by_cases hk : kk = 0
              · have hkI : (kk : Int) = 0 := by omega
                rcases hor with ⟨h1, _⟩ | ⟨_, _, _, hlen, yr5, hrun⟩
                · exact absurd hk h1
                · have HRN := Lib.hid hrun
                  have HLN := Lib.hid hlen
                  have HYR := Lib.hid yr5
                  clear hrun hlen yr5 hk
                  go_wp2_with fail
                  go_roundg (n - (i + 1))
                  case measure => have := HGK.out; omega
                  case rel =>
                    refine ⟨i + 1, n - (i + 1), a5, y5, L5, rfl, by omega, by go_num, Lib.hid ?_, Lib.hid ⟨HJ.out.1, HJ.out.2, HYR.out, HB5.out.trans HR.out.2.2.2.1, fun z k => ?_⟩⟩
                    · have := HLN.out; have := HL.out; omega
                    · rw [HR.out.2.2.2.2, show gk = n - (i + 1) + 1 by have := HGK.out; omega]
                      exact HRN.out z _
              · have hkI : ((kk : Int) != 0) = true := bne_iff_ne.2 (by omega)
                rcases hor with ⟨_, h2, hrun⟩ | ⟨h1, _⟩
                · have HRN := Lib.hid hrun
                  have HKK := Lib.hid hk
                  have H2 := Lib.hid h2
                  clear hrun hk h2
                  go_wp2_with fail
                  exact bodyPost_ret (v := .agg #[.int .i64 (kk : Int), .int .i64 (ff : Int), .int .i64 (aa : Int)]) (by simp [results, Tryz.results177, go_sem, f0, f1, f2', e0, e1, e2]) rfl ⟨y5, L5, a5, kk, ff, aa, rfl, HJ.out.1.st3 HJ.out.2 (Nat.le_refl _), HB5.out.trans HR.out.2.2.2.1, .inl ⟨HKK.out, H2.out, fun z k => by rw [HRUN.out, if_neg HGT.out, if_neg H8.out, HR.out.2.2.2.2, show gk = gk - 1 + 1 by have := HGK.out; omega]; exact HRN.out z _⟩⟩
                · exact absurd h1 hk
            · obtain rfl : gk = 0 := by omega
              have hinI : ¬ (i : Int) < (n : Int) := by omega
              obtain ⟨f0, f1, f2', z0, z1, z2, fl⟩ := FB.all HR.out.2.1
              have hin2 : i = n := by omega
              have HE := Lib.hid hin2
              clear hi hin hin2
              go_wp2_with fail
              exact bodyPost_ret (v := .agg #[.int .i64 0, .int .i64 0, .int .i64 0]) (by simp [results, Tryz.results177, go_sem, f0, f1, f2']) rfl ⟨y', L', a', 0, 0, 0, rfl, HR.out.1.st3 HR.out.2.1 (Nat.le_refl _), HR.out.2.2.2.1, .inr ⟨rfl, rfl, rfl, by have h1 := HL.out; have h2 := HE.out; show L.length < L'.length; omega, HR.out.2.2.1, fun z k => by rw [HRUN.out, if_neg HGT.out, if_neg H8.out]; exact HR.out.2.2.2.2 z k⟩⟩
end Go.Proofs.YtlehkgkomjojmaaGreat
