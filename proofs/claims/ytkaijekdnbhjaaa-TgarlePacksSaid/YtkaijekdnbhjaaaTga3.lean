/- The document's Pack. -/
import Derived.Test.YtkaijekdnbhjaaaTga2
import Derived.Test.YtkaijekdnbhjaaaBufGet
namespace Go.Proofs.Ytkaijekdnbhjaaa
open Go.RowKit
set_option linter.unusedVariables false
set_option linter.unusedSimpArgs false

theorem strOf_snoc (acc : List UInt8) (s : ByteArray) : strOf acc ++ s = strOf (acc ++ s.data.toList) := by
  rw [← strOf_append, strOf_of]
set_option maxRecDepth 100000 in
set_option maxHeartbeats 4000000 in
theorem refPack_any {w : World} {a : Option Addr} {n c : Nat} {l : List ByteArray} (h : RowIn w a n c l) (hn : n ≤ 100000) (hz : ∀ s ∈ l, s.size ≤ 20) :
    Calls Try.prog 26 #[.slice a n c] w fun e w' => e = .returned (.string (strOf (packL (BL l)))) ∧ Below w.heap.size w w' := by
  obtain ⟨hl, hnc, hat⟩ := h
  have HL := Lib.hid hl
  have HAT := Lib.hid hat
  have HZ := Lib.hid hz
  clear hl hat hz
  go_enter Try.func26, Try.ntmps26
  go_wp2_with fail
  go_loopg [3, 4, 5, 6] n (fun g out i s5 s6 wr => ∃ (I : Nat) (so : ByteArray), out = .string so ∧ i = .int .i64 (I : Int) ∧ Hid (n = I + g) ∧ I ≤ n ∧ so.size + 21 * g ≤ 2100000 ∧ Hid (so.data.toList ++ packL (BL (l.drop I)) = packL (BL l)) ∧ Below w.heap.size w wr)
  case atStart => exact ⟨0, ⟨#[]⟩, rfl, rfl, Lib.hid (by omega), by omega, by show 0 + _ ≤ _; omega, Lib.hid (by simp), Below.refl _ _⟩
  case round =>
    obtain ⟨I, so, rfl, rfl, hG, hI, hso, hacc, hb⟩ := hrel
    obtain ⟨G, hGe⟩ : ∃ G, G = gk := ⟨_, rfl⟩
    subst hGe
    by_cases h0 : I < n
    · obtain ⟨b, off, rfl, ht⟩ : ∃ b off, a = some ⟨b, off, none⟩ ∧ Texts w b off l := by
        rcases HAT.out with h | h
        · omega
        · exact h
      have hbw : b < w.heap.size := World.block_lt_of_cell? w _ (ht 0 (by rw [← HL.out]; omega))
      have HT := Lib.hid ht
      have TW : ∀ wq, Below w.heap.size w wq → ∀ j, j < n → ∃ s, l[j]? = some s ∧ wq.cell? ⟨b, off + j, none⟩ = some (.string s) := fun wq hq j hj => by
        obtain ⟨s, h1, h2⟩ := ht.at_ (j := j) (by rw [← HL.out]; exact hj)
        exact ⟨s, h1, (hq.cell (p := ⟨b, off + j, none⟩) hbw).trans h2⟩
      have HTW := Lib.hid TW
      obtain ⟨si, hsi, ci⟩ := TW wr hb I h0
      have HSI := Lib.hid hsi
      have hz0 : si.size ≤ 20 := HZ.out si (List.mem_of_getElem? hsi)
      have hso1 : so.size ≤ 2100000 := by omega
      have h0i : (I : Int) < (n : Int) := by omega
      clear ht TW hsi HAT
      have HB := Lib.hid hb
      have hsz := hb.size
      go_upto_block 2 with fail
      go_cut [5] (fun v wc => ∃ k m : Nat, v = .int .i64 (k : Int) ∧ Run 128 (l.drop I) k ∧ wc = wr.drewN m)
      case first =>
        go_wp2_with fail
        go_loopg [5] 127 (fun g x w2 => ∃ k m : Nat, 128 = k + g ∧ 1 ≤ k ∧ I + k ≤ n ∧ k ≤ 128 ∧ x = .int .i64 (k : Int) ∧ Hid (∀ j, j < k → (l.drop I)[j]? = (l.drop I)[0]?) ∧ w2 = wr.drewN m)
        case atStart => exact ⟨1, 0, by omega, by omega, by omega, by omega, rfl, Lib.hid (fun j hj => by rw [show j = 0 by omega]), rfl⟩
        case round =>
          obtain ⟨k, m, hg, hk1, hk2, hk3, rfl, hsame, rfl⟩ := hrel
          by_cases hlt : I + k < n ∧ k < 128
          · obtain ⟨l1, l2⟩ := hlt
            have l3 : (I : Int) + (k : Int) < (n : Int) := by omega
            have l4 : (k : Int) < 128 := by omega
            obtain ⟨sk, hsk, ck⟩ := HTW.out wr HB.out (I + k) l1
            have hd : (sk.toList == si.toList) = decide ((l.drop I)[k]? = (l.drop I)[0]?) := by
              rw [List.getElem?_drop, List.getElem?_drop, Nat.add_zero, hsk, HSI.out]; exact texts_get _ _
            have HD := Lib.hid hd
            clear hsk hd
            cases hcc : (sk.toList == si.toList)
            · go_wp2_with fail
              go_quiet (fail)
              go_wp2_with fail
              go_meet
              case rel =>
                exact ⟨k, _, rfl, ⟨hk1, hk3, by rw [List.length_drop, ← HL.out]; omega, hsame.out, fun _ _ e => by
                  have := HD.out
                  rw [hcc, decide_eq_true e] at this
                  cases this⟩, World.drewN_drewN _ _ _⟩
            · go_wp2_with fail
              go_quiet (fail)
              go_wp2_with fail
              go_roundg (127 - k)
              case measure => omega
              case rel =>
                exact ⟨k + 1, _, by omega, by omega, by omega, by omega, by go_num, Lib.hid (by
                  intro j hj
                  rcases Nat.lt_succ_iff_lt_or_eq.1 hj with h | rfl
                  · exact hsame.out j h
                  · have := HD.out
                    rw [hcc] at this
                    exact of_decide_eq_true this.symm), by first | rfl | exact World.drewN_drewN _ _ _⟩
          · have q1 : I + k = n ∨ k = 128 := by omega
            by_cases q2 : k = 128
            · subst q2
              clear hlt q1 hg hk3
              by_cases q3 : I + 128 < n
              all_goals
                first
                  | (have q4 : (I : Int) + 128 < (n : Int) := by omega)
                  | (have q4 : decide ((I : Int) + 128 < (n : Int)) = false := decide_eq_false (by omega))
                clear q3
                go_wp2_with fail
                go_quiet (fail)
                go_wp2_with fail
                go_meet
                case rel => exact ⟨128, _, rfl, ⟨hk1, by omega, by have := HL.out; rw [List.length_drop]; omega, hsame.out, fun a b => by omega⟩, by first | rfl | exact World.drewN_drewN _ _ _⟩
            · have hkn : I + k = n := by omega
              have l3 : ¬ (I : Int) + (k : Int) < (n : Int) := by omega
              have l4 : decide ((I : Int) + (k : Int) < (n : Int)) = false := decide_eq_false l3
              have HKN := Lib.hid hkn
              clear q1 q2 hlt l3 hkn
              go_wp2_with fail
              go_quiet (fail)
              go_wp2_with fail
              go_meet
              case rel => exact ⟨k, _, rfl, ⟨hk1, hk3, by rw [List.length_drop, ← HL.out]; omega, hsame.out, fun a b => by rw [List.length_drop, ← HL.out] at b; have := HKN.out; omega⟩, by first | rfl | exact World.drewN_drewN _ _ _⟩
      case rest =>
        obtain ⟨k, m, rfl, hrun, rfl⟩ := hcut
        have k1 := hrun.pos
        have k2 := hrun.le
        have k3 : I + k ≤ n := by have := hrun.len; rw [List.length_drop, ← HL.out] at this; omega
        have HR := Lib.hid (BL_run hrun)
        have b2 := below_drewN HB.out m
        have c2 : (wr.drewN m).cell? ⟨b, off + I, none⟩ = some (.string si) := ci
        generalize (wr.drewN m) = wx at b2 c2 ⊢
        have z2 := b2.size
        have HB2 := Lib.hid b2
        clear hb hrun HB ci b2
        by_cases hk : 1 < k
        · have hki : (1 : Int) < (k : Int) := by omega
          have HC := Lib.hid (packL_run HR.out hk)
          obtain ⟨pb, pb1, pb2⟩ : ∃ b : UInt8, Hid (b = UInt8.ofNat (127 + k)) ∧ Hid ((b.toNat : Int) = 127 + (k : Int)) := ⟨_, rfl, by show ((UInt8.ofNat (127 + k)).toNat : Int) = _; rw [ofNat8 (by omega)]; omega⟩
          go_wp2_with fail
          obtain ⟨sb, hsb⟩ : ∃ sb, sb = strOf [pb] := ⟨_, rfl⟩
          have hsbz : sb.size = 1 := by rw [hsb]; rfl
          have hsz2 : (sb.size : Int) + (si.size : Int) ≤ 9223372036854775807 := by omega
          have hsz3 : (so.size : Int) + ((sb.size : Int) + (si.size : Int)) ≤ 9223372036854775807 := by omega
          have hcv : (convert 54 9 (.slice (some ⟨wx.heap.size, 0, none⟩) 1 1)).run Try.prog (wx.alloc (.cells #[.int .u8 (127 + (k : Int))] 5)).drew = .ok (.string (strOf [pb])) (wx.alloc (.cells #[.int .u8 (127 + (k : Int))] 5)).drew :=
            run_convert_bytes_back (P := Try.prog) _ 54 9 5 ⟨wx.heap.size, 0, none⟩ 1 [pb] Try.underlying54 Try.underlying5 Try.underlying9 (fun j hj => by
              obtain rfl : j = 0 := by simpa using hj
              exact (cell_new wx _ _ 0 _ rfl).trans (by rw [← pb2.out]; rfl))
          rw [← hsb] at hcv
          have HSB := Lib.hid hsb
          clear hsb
          have nb : b ≠ wx.heap.size := by omega
          have nb2 : b < wx.heap.size := by omega
          go_region
          have hb3 : Below w.heap.size w (wx.alloc (.cells #[.int .u8 (127 + (k : Int))] 5)).drew := (HB2.out.alloc z2 _).drew
          change Exit.then _ _ _ _ (wx.alloc (.cells #[.int .u8 (127 + (k : Int))] 5)).drew
          generalize (wx.alloc (.cells #[.int .u8 (127 + (k : Int))] 5)).drew = wz at hb3 ⊢
          clear hcv
          have HEQ : Hid ((so ++ (sb ++ si)).data.toList ++ packL (BL (l.drop (I + k))) = packL (BL l)) := Lib.hid (by
            have := acc_run hacc.out HC.out pb1.out (show (l.drop I)[0]? = some si by rw [List.getElem?_drop]; exact HSI.out)
            rw [List.drop_drop] at this
            rw [← this, HSB.out]
            simp [strOf, ByteArray.data_append])
          go_wp2_with fail
          go_roundg (G - k)
          case measure => have := hG.out; omega
          case rel => exact ⟨I + k, so ++ (sb ++ si), rfl, by go_num, Lib.hid (by have := hG.out; omega), k3, by have := hG.out; simp only [ByteArray.size_append]; omega, HEQ, hb3⟩
        · obtain rfl : k = 1 := by omega
          have hk1 : ¬ (1 : Int) < (1 : Int) := by decide
          go_upto_block 4 with fail
          go_cut [5] (fun v wc => ∃ k m : Nat, v = .int .i64 (k : Int) ∧ Lone 128 (l.drop I) k ∧ wc = wx.drewN m)
          case first =>
            go_wp2_with fail
            go_loopg [5] 127 (fun g x w2 => ∃ k m : Nat, Hid (128 = k + g) ∧ 1 ≤ k ∧ I + k ≤ n ∧ k ≤ 128 ∧ x = .int .i64 (k : Int) ∧ Hid (∀ j, 1 ≤ j → j < k → ¬ Pair (l.drop I) j) ∧ w2 = wx.drewN m)
            case atStart => exact ⟨1, 0, Lib.hid (by omega), by omega, by omega, by omega, rfl, Lib.hid (fun j h1 h2 => by omega), rfl⟩
            case round =>
              obtain ⟨k, m2, hg2, hk1', hk2', hk3', rfl, hno, rfl⟩ := hrel
              have HNO := Lib.hid hno
              by_cases hlt : I + k < n ∧ k < 128
              · obtain ⟨l1, l2⟩ := hlt
                have l3 : (I : Int) + (k : Int) < (n : Int) := by omega
                have l4 : (k : Int) < 128 := by omega
                by_cases h5 : I + k + 1 < n
                · have l5 : (I : Int) + (k : Int) + 1 < (n : Int) := by omega
                  obtain ⟨sk, hsk, ck⟩ := HTW.out wx HB2.out (I + k) l1
                  obtain ⟨sk1, hsk1, ck1⟩ := HTW.out wx HB2.out (I + k + 1) h5
                  have hd : (sk.toList == sk1.toList) = decide ((l.drop I)[k]? = (l.drop I)[k + 1]?) := by
                    rw [List.getElem?_drop, List.getElem?_drop, hsk, ← Nat.add_assoc, hsk1]; exact texts_get _ _
                  have HD := Lib.hid hd
                  clear hsk hsk1 hd
                  cases hcc : (sk.toList == sk1.toList)
                  · go_wp2_with fail
                    go_quiet (fail)
                    go_wp2_with fail
                    go_roundg (127 - k)
                    case measure => have := hg2.out; omega
                    case rel =>
                      exact ⟨k + 1, _, Lib.hid (by have := hg2.out; omega), by omega, by omega, by omega, by go_num, Lib.hid (by
                        intro j h1 h2
                        rcases Nat.lt_succ_iff_lt_or_eq.1 h2 with h | rfl
                        · exact HNO.out j h1 h
                        · rintro ⟨_, q⟩
                          have := HD.out
                          rw [hcc, decide_eq_true q] at this
                          cases this), by first | rfl | exact World.drewN_drewN _ _ _⟩
                  · go_wp2_with fail
                    go_quiet (fail)
                    go_wp2_with fail
                    go_meet
                    case rel =>
                      exact ⟨k, _, rfl, ⟨hk1', hk3', by rw [List.length_drop, ← HL.out]; omega, HNO.out, fun _ _ => ⟨by rw [List.length_drop, ← HL.out]; omega, by
                        have := HD.out
                        rw [hcc] at this
                        exact of_decide_eq_true this.symm⟩⟩, by first | rfl | exact World.drewN_drewN _ _ _⟩
                · have l5 : decide ((I : Int) + (k : Int) + 1 < (n : Int)) = false := decide_eq_false (by omega)
                  have HN5 := Lib.hid h5
                  clear h5
                  go_wp2_with fail
                  go_quiet (fail)
                  go_wp2_with fail
                  go_roundg (127 - k)
                  case measure => have := hg2.out; omega
                  case rel =>
                    exact ⟨k + 1, _, Lib.hid (by have := hg2.out; omega), by omega, by omega, by omega, by go_num, Lib.hid (by
                      intro j h1 h2
                      rcases Nat.lt_succ_iff_lt_or_eq.1 h2 with h | rfl
                      · exact HNO.out j h1 h
                      · rintro ⟨q, _⟩
                        rw [List.length_drop, ← HL.out] at q
                        have := HN5.out
                        omega), by first | rfl | exact World.drewN_drewN _ _ _⟩
              · have q1 : I + k = n ∨ k = 128 := by omega
                by_cases q2 : k = 128
                · subst q2
                  clear hlt q1 hk3' hno
                  by_cases q3 : I + 128 < n
                  all_goals
                    first
                      | (have q4 : (I : Int) + 128 < (n : Int) := by omega)
                      | (have q4 : decide ((I : Int) + 128 < (n : Int)) = false := decide_eq_false (by omega))
                    clear q3
                    go_wp2_with fail
                    go_quiet (fail)
                    go_wp2_with fail
                    go_meet
                    case rel => exact ⟨128, _, rfl, ⟨hk1', by omega, by have := HL.out; rw [List.length_drop]; omega, HNO.out, fun a b => by omega⟩, by first | rfl | exact World.drewN_drewN _ _ _⟩
                · have hkn : I + k = n := by omega
                  have l4 : decide ((I : Int) + (k : Int) < (n : Int)) = false := decide_eq_false (by omega)
                  have HKN := Lib.hid hkn
                  clear q1 q2 hlt hkn hno
                  go_wp2_with fail
                  go_quiet (fail)
                  go_wp2_with fail
                  go_meet
                  case rel => exact ⟨k, _, rfl, ⟨hk1', hk3', by rw [List.length_drop, ← HL.out]; omega, HNO.out, fun a b => by rw [List.length_drop, ← HL.out] at b; have := HKN.out; omega⟩, by first | rfl | exact World.drewN_drewN _ _ _⟩
          case rest =>
            obtain ⟨k, m2, rfl, hlone, rfl⟩ := hcut
            have p1 := hlone.pos
            have p2 := hlone.le
            have p3 : I + k ≤ n := by have := hlone.len; rw [List.length_drop, ← HL.out] at this; omega
            have HC := Lib.hid (packL_lone HR.out (BL_lone hlone))
            clear hlone
            obtain ⟨pb, pb1, pb2⟩ : ∃ b : UInt8, Hid (b = UInt8.ofNat (k - 1)) ∧ Hid ((b.toNat : Int) = (k : Int) - 1) := ⟨_, rfl, by show ((UInt8.ofNat (k - 1)).toNat : Int) = _; rw [ofNat8 (by omega)]; omega⟩
            have b4 := below_drewN HB2.out m2
            have z4 : w.heap.size ≤ (wx.drewN m2).heap.size := z2
            generalize (wx.drewN m2) = wy at b4 z4 ⊢
            clear z2 c2
            obtain ⟨sb, hsb⟩ : ∃ sb, sb = strOf [pb] := ⟨_, rfl⟩
            have hsbz : sb.size = 1 := by rw [hsb]; rfl
            have hsz3 : (so.size : Int) + (sb.size : Int) ≤ 9223372036854775807 := by omega
            have hcv : (convert 54 9 (.slice (some ⟨wy.heap.size, 0, none⟩) 1 1)).run Try.prog (wy.alloc (.cells #[.int .u8 ((k : Int) - 1)] 5)) = .ok (.string (strOf [pb])) (wy.alloc (.cells #[.int .u8 ((k : Int) - 1)] 5)) :=
              run_convert_bytes_back (P := Try.prog) _ 54 9 5 ⟨wy.heap.size, 0, none⟩ 1 [pb] Try.underlying54 Try.underlying5 Try.underlying9 (fun j hj => by
                obtain rfl : j = 0 := by simpa using hj
                exact (cell_new wy _ _ 0 _ rfl).trans (by rw [← pb2.out]; rfl))
            rw [← hsb] at hcv
            have HSB := Lib.hid hsb
            clear hsb
            go_wp2_with fail
            have hb5 : Below w.heap.size w (wy.alloc (.cells #[.int .u8 ((k : Int) - 1)] 5)) := b4.alloc z4 _
            change Code.wp _ _ _ _ (wy.alloc (.cells #[.int .u8 ((k : Int) - 1)] 5))
            generalize (wy.alloc (.cells #[.int .u8 ((k : Int) - 1)] 5)) = wz at hb5 ⊢
            clear hcv b4 z4
            have hkG : k ≤ G := by have := hG.out; omega
            go_loopg [3, 6] k (fun g v x w2 => ∃ (j : Nat) (st : ByteArray), v = .string st ∧ x = .int .i64 (j : Int) ∧ Hid (k = j + g) ∧ j ≤ k ∧ st.size ≤ so.size + 1 + 20 * j ∧ Hid (st.data.toList = so.data.toList ++ [pb] ++ ((BL (l.drop I)).take j).flatten) ∧ w2 = wz)
            case atStart => exact ⟨0, so ++ sb, rfl, rfl, Lib.hid (by omega), by omega, by simp only [ByteArray.size_append]; omega, Lib.hid (by rw [HSB.out]; simp [strOf, ByteArray.data_append]), rfl⟩
            case round =>
              obtain ⟨j, st, rfl, rfl, hg3, hjk, hstz, hst, rfl⟩ := hrel
              by_cases hj : j < k
              · obtain ⟨sj, hsj, cj⟩ := HTW.out _ hb5 (I + j) (by omega)
                have hjz := HZ.out sj (List.mem_of_getElem? hsj)
                have hji : (j : Int) < (k : Int) := by omega
                have hin : (I : Int) + (j : Int) < (n : Int) := by omega
                have hst1 : st.size ≤ 2100000 := by omega
                have hsz4 : (st.size : Int) + (sj.size : Int) ≤ 9223372036854775807 := by omega
                have HSJ := Lib.hid hsj
                clear hsj
                go_wp2_with fail
                go_roundg (k - (j + 1))
                case measure => have := hg3.out; omega
                case rel =>
                  exact ⟨j + 1, st ++ sj, rfl, by go_num, Lib.hid (by have := hg3.out; omega), by omega, by simp only [ByteArray.size_append]; omega, Lib.hid (by
                    rw [ByteArray.data_append, Array.toList_append, hst.out, flat_next (show (l.drop I)[j]? = some sj by rw [List.getElem?_drop]; exact HSJ.out), List.append_assoc]), rfl⟩
              · obtain rfl : j = k := by omega
                have HEQ := Lib.hid (acc_lone hacc.out HC.out pb1.out)
                rw [← hst.out, List.drop_drop] at HEQ
                go_wp2_with fail
                go_roundg (G - j)
                case measure => have := hG.out; omega
                case rel => exact ⟨I + j, st, rfl, by go_num, Lib.hid (by have := hG.out; omega), p3, by have := hG.out; omega, HEQ, hb5⟩
    · go_wp2_with fail
      go_ret
      have := HL.out
      exact ⟨ret1 (vstr (by rw [← hacc.out, List.drop_of_length_le (by omega)]; simp [BL, packL_nil, strOf_of])), hb⟩
end Go.Proofs.Ytkaijekdnbhjaaa
