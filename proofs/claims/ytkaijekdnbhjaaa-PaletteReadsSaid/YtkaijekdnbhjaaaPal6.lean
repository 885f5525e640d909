/- The law PaletteReads. -/
import Derived.Test.YtkaijekdnbhjaaaPal5
namespace Go.Proofs.Ytkaijekdnbhjaaa
open Go.RowKit
set_option linter.unusedVariables false
set_option linter.unusedSimpArgs false

theorem take_snoc {C : List Qc} {j : Nat} {q : Qc} (h : C[j]? = some q) : C.take (j + 1) = C.take j ++ [q] := by
  rw [List.take_add_one, h]; rfl
theorem take_len {C : List Qc} {j : Nat} (h : j ≤ C.length) : (C.take j).length = j := by rw [List.length_take]; omega
theorem four_types {w : World} {p b g d m q : Nat} {L : List Qc} {s : ByteArray} {x : Led} {f t a : Nat} (h : PalHas w p b g d m L) (hq : SrcAt w q g s f t a) (hl : LedAt w g x) : ∀ i ∈ [p, d, q, g], ∃ t cs, Blk w i t cs ∧ t ≠ 34 := by
  obtain ⟨h1, h2, rest, h3, h4⟩ := h
  intro i hi
  simp only [List.mem_cons, List.not_mem_nil, or_false] at hi
  rcases hi with rfl | rfl | rfl | rfl
  · exact ⟨_, _, h1, by decide⟩
  · exact ⟨_, _, h3.row, by decide⟩
  · exact ⟨_, _, hq, by decide⟩
  · exact ⟨_, _, hl, by decide⟩
set_option maxRecDepth 100000 in
set_option maxHeartbeats 4000000 in
theorem reads_walk {w : World} {m na cap : Nat} {aa : Option Addr} {C : List Qc} {s : ByteArray} {n k : Int} (hm1 : 1 ≤ m) (hm : m ≤ 255) (hna : na ≤ 40) (hC : QRow w aa na C) (hs : s.size ≤ 300) (hn : -9223372036854775808 ≤ n ∧ n ≤ 9223372036854775807) :
    Calls Try.prog 3 #[.int .u8 (m : Int), .slice aa na cap, .string s, .int .i64 n, .int .i64 k] w fun e w' => e = .returned (.bool true) ∧ Below w.heap.size w w' := by
  have g1 : ¬ (40 : Int) < (na : Int) := by omega
  have g2 : ¬ (300 : Int) < (s.size : Int) := by omega
  have g3 : ((m : Int) == 0) = false := beq_eq_false_iff_ne.2 (by omega)
  have g4 : ¬ (m : Int) = 0 := by omega
  have HL := Lib.hid hC.1
  have HC := Lib.hid hC.2
  have HT0 := Lib.hid (z0_take hm)
  clear hC
  go_enter Try.func3, Try.ntmps3
  go_wp2_with (first
    | (go_at_call 10; refine (ledNew_at z0_new _).mono ?_; rintro e w0 ⟨g, rfl, hgB, h0, b0⟩)
    | (go_at_call 11; refine (palNew_yes h0 z0_ok HT0.out hm1 (by omega)).mono ?_; rintro e w1 ⟨p, b, d, rfl, p1, m1, l1, hpB, hbB, hdB, t1⟩)
    | (go_at_call 12; refine (bytes_at (p := 4 * (m : Int)) l1 rfl).mono ?_; rintro e w9 ⟨rfl, rfl⟩))
  have s0 := b0.size
  have hpw : w.heap.size ≤ p := by omega
  have hbw : w.heap.size ≤ b := by omega
  have hdw : w.heap.size ≤ d := by omega
  have S0 : PS w w1 p b g d m (.slice none 0 0) [] 0 := ⟨has_new p1 m1, World.ownsRow_nil _ _ _ _, l1, Turn.belowNext b0 t1 (by simpa using hgB) s0⟩
  have HS0 := Lib.hid S0
  clear S0 p1 m1 l1 t1 b0 h0 s0 hpB hbB hdB
  go_loopg [14, 16, 67] na (fun gh v s16 x wr => ∃ (j K : Nat) (va : Option Addr) (vc : Nat), x = .int .i64 (j : Int) ∧ v = .slice va K vc ∧ Hid (na = j + gh) ∧ j ≤ na ∧ Hid (K = min j m) ∧ Hid (PS w wr p b g d m (.slice va K vc) (C.take K) 0))
  case atStart => exact ⟨0, 0, none, 0, rfl, rfl, Lib.hid (by omega), by omega, Lib.hid (by omega), HS0⟩
  case round =>
    obtain ⟨j, K, va, vc, rfl, rfl, hg, hj, hK, hS⟩ := hrel
    by_cases hlt : j < na
    · have j0 : (j : Int) < (na : Int) := by omega
      obtain ⟨ba, oa, rfl, hq⟩ := HC.out.resolve_left (by omega)
      obtain ⟨qc, hqc⟩ : ∃ qc, C[j]? = some qc := ⟨_, List.getElem?_eq_getElem (by rw [← HL.out]; exact hlt)⟩
      obtain ⟨c0, c1, c2, c3⟩ := (hq.below hS.out.below) j qc hqc
      have HQC := Lib.hid hqc
      have S1 := Lib.hid (hS.out.alloc (.cells #[.int .u8 (qc.r.toNat : Int), .int .u8 (qc.g.toNat : Int), .int .u8 (qc.b.toNat : Int), .int .u8 (qc.a.toNat : Int)] 34))
      have X1 : Hid (CB (wr.alloc (.cells #[.int .u8 (qc.r.toNat : Int), .int .u8 (qc.g.toNat : Int), .int .u8 (qc.b.toNat : Int), .int .u8 (qc.a.toNat : Int)] 34)) wr.heap.size (qc.r.toNat : Int) (qc.g.toNat : Int) (qc.b.toNat : Int) (qc.a.toNat : Int)) := Lib.hid (Blk.new _ _ _)
      clear hq hqc
      by_cases hjm : j < m
      · have hKj : K = j := by have := hK.out; omega
        subst hKj
        have k0 : (K : Int) < (m : Int) := by omega
        have HA := Lib.hid (has_add S1.out.has (by rw [take_len (by rw [← HL.out]; omega)]; exact hjm) (by omega) qc)
        have hlt1 := S1.out.has.lt
        have hT : Hid (∀ i ∈ [p, d], ∃ t cs, Blk (wr.alloc (.cells #[.int .u8 (qc.r.toNat : Int), .int .u8 (qc.g.toNat : Int), .int .u8 (qc.b.toNat : Int), .int .u8 (qc.a.toNat : Int)] 34)) i t cs ∧ t ≠ 34) := Lib.hid (fun i hi => by
          obtain ⟨h1, h2, rest, h3, h4⟩ := S1.out.has
          rcases List.mem_cons.1 hi with e | hi
          · rw [e]; exact ⟨_, _, h1, by decide⟩
          · rw [List.mem_singleton.1 hi]; exact ⟨_, _, h3.row, by decide⟩)
        have hxp : Hid (wr.heap.size ∉ [p, d]) := Lib.hid (by have := hS.out.has.lt; simp; omega)
        have hgp : Hid (g ∉ [p, d]) := Lib.hid (by have := S1.out.has.led S1.out.led; simp [this.1.symm, this.2.2.symm])
        go_wp2_with (first
          | (go_at_call 13; refine HA.out.mono ?_; rintro e w5 ⟨rfl, h5, t5⟩; have X5 : CB w5 wr.heap.size (qc.r.toNat : Int) (qc.g.toNat : Int) (qc.b.toNat : Int) (qc.a.toNat : Int) := Blk.turn X1.out t5 hxp.out; have x0 := X5.c0; have x1 := X5.c1; have x2 := X5.c2; have x3 := X5.c3; have own5 := (S1.out.own.turn t5 hT.out).alloc (.cells #[.int .u8 (qc.r.toNat : Int), .int .u8 (qc.g.toNat : Int), .int .u8 (qc.b.toNat : Int), .int .u8 (qc.a.toNat : Int)] 34); have bel5 := Turn.belowNext S1.out.below t5 (by simp [hpw, hdw]) S1.out.below.size; have z5 := bel5.size; have bel6 := bel5.alloc z5 (.cells #[.int .u8 (qc.r.toNat : Int), .int .u8 (qc.g.toNat : Int), .int .u8 (qc.b.toNat : Int), .int .u8 (qc.a.toNat : Int)] 34); have H5 := Lib.hid h5; have T5 := Lib.hid t5; clear h5 t5)
          | (at_builtin; refine wpList_append_cols rfl (.tmp 85) (.tmp 87) rfl w.heap.size _ _ rfl own5 w5.heap.size 1 1 [qc] rfl rfl (q_new w5 qc) ?_ ?_ ?_; (rw [take_len (by rw [← HL.out]; omega)]; simp; omega); (simp; omega); intro v7 w7 own7 hb7 hg7))
        obtain ⟨va7, vc7, hv7⟩ := own7.slice
        have e7 : (C.take K ++ [qc]).length = K + 1 := by rw [List.length_append, take_len (by rw [← HL.out]; omega)]; rfl
        rw [e7] at hv7
        subst hv7
        go_roundg (na - (K + 1))
        case measure => have := hg.out; omega
        case rel =>
          exact ⟨K + 1, K + 1, va7, vc7, by go_num, rfl, Lib.hid (by have := hg.out; omega), by omega, Lib.hid (by omega), Lib.hid (by
            rw [take_snoc HQC.out]
            exact ⟨PalHas.grownQ (H5.out.below ((Below.refl _ _).alloc (Nat.le_refl _) _)) own5 hg7, own7, Blk.grownQ (Blk.alloc (Blk.turn S1.out.led T5.out hgp.out) _) own5 (by decide) hg7, bel6.trans hb7⟩)⟩
      · have hKm : K = m := by have := hK.out; omega
        subst hKm
        have k0 : ¬ (K : Int) < (K : Int) := by omega
        have HA := Lib.hid (has_full S1.out.has (take_len (by rw [← HL.out]; omega)) (qc.r.toNat : Int) (qc.g.toNat : Int) (qc.b.toNat : Int) (qc.a.toNat : Int))
        go_wp2_with (go_at_call 13; refine HA.out.mono ?_; rintro e w5 ⟨rfl, b5⟩)
        go_roundg (na - (j + 1))
        case measure => have := hg.out; omega
        case rel => exact ⟨j + 1, K, va, vc, by go_num, rfl, Lib.hid (by have := hg.out; omega), by omega, Lib.hid (by omega), Lib.hid (S1.out.next b5)⟩
    · obtain rfl : j = na := by omega
      obtain ⟨L0, hL0⟩ : ∃ L0, L0 = C.take K := ⟨_, rfl⟩
      have hK0 : K = L0.length := by rw [hL0, take_len (by rw [← HL.out]; have := hK.out; omega)]
      have hKm : K ≤ m := by have := hK.out; omega
      have HS2 := hS
      rw [← hL0] at HS2
      have HKL := Lib.hid hK0
      clear hS hL0 hK0
      go_upto_block 2 with (first
        | (go_at_call 14; refine (srcNew_any g s _).mono ?_; rintro e w3 ⟨q, rfl, hqB, q3, b3⟩; have S3 := HS2.out.next b3; have HRD := Lib.hid (palRead_law n k S3.has hm q3 hs S3.led); have hT := Lib.hid (four_types S3.has q3 S3.led); have hqw : w.heap.size ≤ q := Nat.le_trans HS2.out.below.size hqB)
        | (go_at_call 15; refine HRD.out.mono ?_; rintro e w4 ⟨f, M, y, rfl, rp, h4, l4, hy, t4⟩; have own4 := S3.own.turn t4 hT.out; have bel4 := Turn.belowNext S3.below t4 (by simp [hpw, hdw, hqw, hgB]) S3.below.size; have RPH := Lib.hid rp; have H4 := Lib.hid h4; have L4 := Lib.hid l4; have O4 := Lib.hid own4; have B4 := Lib.hid bel4; clear rp h4 l4 own4 bel4 t4))
      have z4 := B4.out.size
      go_cut [14] (fun v wc => ∃ (M : List Qc) (va : Option Addr) (vc y : Nat), v = .slice va M.length vc ∧ Hid (PS w wc p b g d m (.slice va M.length vc) M y) ∧ y ≤ 1000)
      case first =>
        rcases RPH.out with ⟨hc, rfl, rfl⟩ | ⟨hk0, hn0, hn1, rfl, rfl⟩ | ⟨z, N, c, hz, hz1, rfl, hN, c1, c2, c3, rfl⟩
        · have HRS := Lib.hid (fun w => refSize_any k w)
          obtain ⟨Zk, hZk⟩ : ∃ Zk, Zk = psize k := ⟨_, rfl⟩
          rw [← hZk] at HRS hc
          clear hZk
          by_cases hz0 : Zk = 0
          · subst hz0
            clear hc
            go_wp2_with (go_at_call 16; refine (HRS.out _).mono ?_; rintro e w9 ⟨rfl, rfl⟩)
            go_meet
            case rel => exact ⟨M, va, vc, y, by rw [HKL.out], Lib.hid ⟨H4.out, by rw [← HKL.out]; exact O4.out, L4.out, B4.out⟩, hy⟩
          · have hn0 : n < 0 := hc.resolve_left hz0
            have hz1 : (Zk == 0) = false := beq_eq_false_iff_ne.2 hz0
            clear hc
            go_wp2_with (go_at_call 16; refine (HRS.out _).mono ?_; rintro e w9 ⟨rfl, rfl⟩)
            go_meet
            case rel => exact ⟨M, va, vc, y, by rw [HKL.out], Lib.hid ⟨H4.out, by rw [← HKL.out]; exact O4.out, L4.out, B4.out⟩, hy⟩
        · have HRS := Lib.hid (fun w => refSize_any k w)
          obtain ⟨Zk, hZk⟩ : ∃ Zk, Zk = psize k := ⟨_, rfl⟩
          rw [← hZk] at HRS hk0
          have hz1 : (Zk == 0) = false := beq_eq_false_iff_ne.2 hk0
          have hn2 : ¬ n < 0 := by omega
          have hn3 : (m : Int) - (K : Int) < n := by rw [HKL.out]; exact hn1
          clear hZk hn1
          go_wp2_with (go_at_call 16; refine (HRS.out _).mono ?_; rintro e w9 ⟨rfl, rfl⟩)
          go_meet
          case rel => exact ⟨M, va, vc, y, by rw [HKL.out], Lib.hid ⟨H4.out, by rw [← HKL.out]; exact O4.out, L4.out, B4.out⟩, hy⟩
        · have HRS0 := fun w => refSize_any k w
          rw [hz] at HRS0
          have HRS := Lib.hid HRS0
          have HRR := Lib.hid (fun w => refRead10 (w := w) (s := s) (n := N) hz hz1 (by omega) (by omega))
          have hzb : ((z : Int) == 0) = false := beq_eq_false_iff_ne.2 (by omega)
          have hz0 : ¬ (z : Int) = 0 := by omega
          have hn2 : ¬ (N : Int) < 0 := by omega
          have hn3 : ¬ (m : Int) - (K : Int) < (N : Int) := by rw [HKL.out]; have := HKL.out; omega
          have HST := Lib.hid (fun c' (q1 : c' * z ≤ s.size) (q2 : c' ≤ N) (q3 : c' = N ∨ s.size < (c' + 1) * z) => ref_stop q1 q2 q3 c1 c2 (c3.imp (fun q => q.1) (fun q => q.2.1)))
          have hLK : Hid (L0.length + (ents k z s c).length < 1099511627776) := Lib.hid (by rw [ents_len, ← HKL.out]; omega)
          clear HRS0 hz c1 hN
          rcases c3 with ⟨hcN, rfl⟩ | ⟨hcN, hsh, rfl⟩
          all_goals
            first
              | (have d1 : ¬ (c : Int) < (N : Int) := by omega)
              | (have d1 : (c : Int) < (N : Int) := by omega)
            first
              | (have d2 : ((c : Int) == (N : Int)) = true := beq_iff_eq.2 (by omega))
              | (have d2 : ((c : Int) == (N : Int)) = false := beq_eq_false_iff_ne.2 (by omega))
            have HCN := Lib.hid c2
            clear hcN c2
            try clear hsh
            go_wp2_with (first
              | (go_at_call 16; refine (HRS.out _).mono ?_; rintro e w9 ⟨rfl, rfl⟩)
              | (go_at_call 17; refine (HRR.out _).mono ?_; rintro e w5 ⟨c', g5, cap5, rfl, own5, e1, e2, e3, b5⟩; have hcc := HST.out c' e1 e2 e3; subst hcc; have o45 := O4.out.below b5; have q5 := own5.at_; have bel5 := below_next B4.out b5; have z5 := bel5.size; clear own5 e1 e2 e3)
              | (at_builtin; refine wpList_append_cols rfl (.tmp 123) (.tmp 124) rfl w.heap.size _ L0 rfl o45 g5 c' cap5 (ents k z s c') (ents_len _ _ _ _).symm rfl q5 hLK.out z5 ?_; intro v7 w7 own7 hb7 hg7))
            obtain ⟨va7, vc7, hv7⟩ := own7.slice
            subst hv7
            go_meet
            case rel => exact ⟨_, va7, vc7, y, rfl, Lib.hid ⟨PalHas.grownQ (H4.out.below b5) o45 hg7, own7, Blk.grownQ (Blk.below L4.out b5 (Blk.lt L4.out)) o45 (by decide) hg7, bel5.trans hb7⟩, hy⟩
      case rest =>
        obtain ⟨M2, va2, vc2, y2, rfl, HPS, hy2⟩ := hcut
        obtain ⟨K2, hK2⟩ : ∃ K2, K2 = M2.length := ⟨_, rfl⟩
        rw [← hK2] at HPS
        rw [← hK2]
        have HK2 := Lib.hid hK2
        have hK2m : K2 ≤ m := by rw [hK2]; exact HPS.out.has.2.1
        have HLN := Lib.hid (palLen_at HPS.out.has.1)
        rw [← hK2] at HLN
        clear hK2 RPH H4 L4 O4 B4 z4
        go_wp2_with (go_at_call 18; refine HLN.out.mono ?_; rintro e w9 ⟨rfl, rfl⟩)
        go_loopg [21, 22, 23, 24, 153] K2 (fun gh s21 s22 s23 s24 x wr => ∃ j : Nat, x = .int .i64 (j : Int) ∧ Hid (K2 = j + gh) ∧ j ≤ K2 ∧ Hid (PS w wr p b g d m (.slice va2 K2 vc2) M2 y2))
        case atStart => exact ⟨0, rfl, Lib.hid (by omega), by omega, HPS⟩
        case round =>
          obtain ⟨j, rfl, hg, hj, hS⟩ := hrel
          by_cases hlt : j < K2
          · have j0 : (j : Int) < (K2 : Int) := by omega
            obtain ⟨ga, rfl, hqa⟩ : ∃ ga, va2 = some ⟨ga, 0, none⟩ ∧ QAt wr ga 0 M2 := by
              rcases hS.out.own.form with ⟨_, h⟩ | ⟨ga, ca, e, _, _, _, hq⟩
              · have := HK2.out; rw [h] at this; simp at this; omega
              · simp only [Value.slice.injEq] at e
                exact ⟨ga, e.1, hq⟩
            obtain ⟨qc, hqc⟩ : ∃ qc, M2[j]? = some qc := ⟨_, List.getElem?_eq_getElem (by rw [← HK2.out]; exact hlt)⟩
            obtain ⟨c0, c1, c2, c3⟩ := hqa j qc hqc
            rw [Nat.zero_add] at c0 c1 c2 c3
            have S1 := Lib.hid (hS.out.alloc (.cells #[.int .u8 (qc.r.toNat : Int), .int .u8 (qc.g.toNat : Int), .int .u8 (qc.b.toNat : Int), .int .u8 (qc.a.toNat : Int)] 34))
            have HOF := Lib.hid (has_of S1.out.has (by omega) hqc)
            have X1 : Hid (CB (wr.alloc (.cells #[.int .u8 (qc.r.toNat : Int), .int .u8 (qc.g.toNat : Int), .int .u8 (qc.b.toNat : Int), .int .u8 (qc.a.toNat : Int)] 34)) wr.heap.size (qc.r.toNat : Int) (qc.g.toNat : Int) (qc.b.toNat : Int) (qc.a.toNat : Int)) := Lib.hid (Blk.new _ _ _)
            clear hqa hqc
            go_wp2_with (go_at_call 19; refine HOF.out.mono ?_; rintro e w5 ⟨rfl, b5⟩; have S5 := (S1.out.next b5).alloc (.cells #[.int .u8 (qc.r.toNat : Int), .int .u8 (qc.g.toNat : Int), .int .u8 (qc.b.toNat : Int), .int .u8 (qc.a.toNat : Int)] 34); have X5 : CB w5 wr.heap.size (qc.r.toNat : Int) (qc.g.toNat : Int) (qc.b.toNat : Int) (qc.a.toNat : Int) := Blk.below X1.out b5 (by simp); have x0 := X5.c0; have x1 := X5.c1; have x2 := X5.c2; have x3 := X5.c3; have xlt := Blk.lt X5; have xne := Nat.ne_of_lt xlt)
            go_roundg (K2 - (j + 1))
            case measure => have := hg.out; omega
            case rel => exact ⟨j + 1, by go_num, Lib.hid (by have := hg.out; omega), by omega, Lib.hid S5⟩
          · obtain rfl : j = K2 := by omega
            have HO1 := Lib.hid (palOf_no (i := (j : Int)) hS.out.has.1 (.inr (by rw [← HK2.out]; exact Int.le_refl _)))
            clear hg hlt
            go_wp2_with (first
              | (go_at_call 19; have := kO; refine (palOf_no P5.has.1 (.inl (by decide))).mono ?_; rintro e w6 ⟨rfl, b6⟩; have P6 := (P5.next b6).alloc (.cells #[.int .u8 0, .int .u8 0, .int .u8 0, .int .u8 0] 34); have Y6 : CB w6 w5.heap.size 0 0 0 0 := Blk.below (Blk.new w5 _ _) b6 (by simp); have y0 := Y6.c0; have y1 := Y6.c1; have y2' := Y6.c2; have y3 := Y6.c3; have ylt := Blk.lt Y6; have yne := Nat.ne_of_lt ylt; have HF := Lib.hid (ps_free P6 hm hy2))
              | (go_at_call 19; refine HO1.out.mono ?_; rintro e w5 ⟨rfl, b5⟩; have P5 := (hS.out.next b5).alloc (.cells #[.int .u8 0, .int .u8 0, .int .u8 0, .int .u8 0] 34); have kO := trivial)
              | (go_at_call 20; have := kF; refine (palFree_done pa8 bo8).mono ?_; rintro e w9 ⟨rfl, pa9, t9⟩; have bel9 := Turn.belowNext bel8 t9 (by simpa using hpw) bel8.size)
              | (go_at_call 20; refine HF.out.mono ?_; rintro e w7 ⟨rfl, pa7, bo7, l7, t7⟩; have bel7 := Turn.belowNext P6.below t7 (by simp [hpw, hbw, hgB]) P6.below.size; have kF := trivial)
              | (go_at_call 12; refine (bytes_at (p := 0) l7 rfl).mono ?_; rintro e w9 ⟨rfl, rfl⟩)
              | (go_at_call 18; refine (palLen_at pa7).mono ?_; rintro e w9 ⟨rfl, rfl⟩)
              | (go_at_call 13; refine (palAdd_no pa7 (by omega) 0 0 0 0).mono ?_; rintro e w8 ⟨rfl, b8⟩; have pa8 : PalAt w8 p b 0 0 := Blk.below pa7 b8 (Blk.lt pa7); have bo8 : BufOff w8 b g := Blk.below bo7 b8 (Blk.lt bo7); have bel8 := below_next bel7 b8)
              | (go_at_call 9; refine (paletteAwake _).mono ?_; rintro e w10 ⟨rfl, b10⟩; have bel10 := below_next bel9 b10))
            go_ret
            exact ⟨rfl, bel10⟩
end Go.Proofs.Ytkaijekdnbhjaaa
